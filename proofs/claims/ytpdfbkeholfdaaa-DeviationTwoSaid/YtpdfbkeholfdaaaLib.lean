/- OWN WORK, put together by tools/asm.py, seat.py, mini.py. -/
import Derived.Test.YtpdfbkeholfdaaaCode
set_option linter.unusedSimpArgs false
set_option linter.unusedVariables false
set_option maxRecDepth 100000
set_option maxHeartbeats 1000000
namespace Go.Proofs.Try
open Go.Ab Go
open Int renaming reduceEq → jA, reduceLT → jB, reduceLE → jC, reduceToNat → jD
open Go.Ab renaming w_ite_ne → jM, w_ite_lt → jN, wrap_id → jO, w_app_nl → jP
open Nat renaming reduceLT → jE, reduceEqDiff → jF, reduceAdd → jG, reduceLeDiff → jH, reduceSub → jI, reduceMul → jJ, sub_zero → jK, sub_self → jL
theorem tmod_mod (n k : Int) (hk : 0 < k) : (n.tmod k + k).tmod k = n % k := by
 have h2 := Int.tmod_eq_emod (a := n) (b := k)
 have h3 := Int.emod_nonneg n (show k ≠ 0 by omega)
 have h4 := Int.emod_lt_of_pos n hk
 have h5 : 0 ≤ n.tmod k + k := by rw [h2]; split <;> omega
 rw [Int.tmod_eq_emod_of_nonneg h5, Int.add_emod_right, h2]
 split
 ·simp
 ·rw [show ((k.natAbs : Nat) : Int) = k by omega, Int.sub_emod_right]; exact Int.emod_emod_of_dvd n (Int.dvd_refl k)
theorem tmod_bd (n k : Int) (hk : 0 < k) : -k < n.tmod k ∧ n.tmod k < k := by
 have h2 := Int.tmod_eq_emod (a := n) (b := k)
 have h3 := Int.emod_nonneg n (show k ≠ 0 by omega)
 have h4 := Int.emod_lt_of_pos n hk
 by_cases h : 0 ≤ n ∨ k ∣ n
 ·rw [if_pos h] at h2; omega
 ·rw [if_neg h] at h2
  have : n % k ≠ 0 := fun h0 => h (.inr (Int.dvd_of_emod_eq_zero h0))
  omega
def ints (l : List Int) : List AV := l.map (.int .i64)
theorem ints_length (l : List Int) : (ints l).length = l.length := by simp [ints]
theorem ints_get (l : List Int) (i : Nat) : (ints l)[i]? = (l[i]?).map (AV.int .i64) := by simp [ints]
theorem ints_pur (l : List Int) : ∀ x ∈ ints l, x.pur = true := by simp [ints, go_sem]
theorem ints_ok (l : List Int) : ∀ x ∈ ints l, okE 1 x := by simp [ints, okE, go_sem]
structure Bd where
 lo : Int
 hi : Int
 deriving DecidableEq, Inhabited
def bdv (b : Bd) : AV := .agg [.int .i64 b.lo, .int .i64 b.hi]
def bds (l : List Bd) : List AV := l.map bdv
theorem bds_length (l : List Bd) : (bds l).length = l.length := by simp [bds]
theorem bds_get (l : List Bd) (i : Nat) : (bds l)[i]? = (l[i]?).map bdv := by simp [bds]
theorem bds_pur (l : List Bd) : ∀ x ∈ bds l, x.pur = true := by simp [bds, bdv, go_sem]
theorem bds_ok (l : List Bd) : ∀ x ∈ bds l, okE 2 x := by simp [bds, bdv, okE, go_sem]
def runS {α : Type} (f : α → α) (b : α) : Nat → α
 | 0 => b
 | k + 1 => f (runS f b k)
theorem ok_mk_Mod (n k : Int) (hk : 0 < k) (hk2 : k ≤ 4611686018427387904) : PC prog n_mk_Mod [.int .i64 n, .int .i64 k] (.int .i64 (n % k)) := by
 have h1 := tmod_bd n k hk
 refine PC_of_body b_mk_Mod (by simp) ?_
 simp (disch := omega) only [c_mk_Mod, go_sem, jA, jB, jC, jD, jE, jF, jG, jH, jI, jJ, ↓reduceIte, reduceCtorEq, jP, jO]
 exact ⟨by omega, by omega, Pub.of_eq (by rw [tmod_mod n k hk]) rfl⟩
def deckV (l : List Int) (at' : Nat) : AV := .agg [.list 1 (ints l), .int .i64 at']
def deckR (l : List Int) (at' : Nat) (n : Int) : Int × Nat := if n < 1 ∨ l.length ≤ at' then (0, at') else (l.getD at' 0 % n, at' + 1)
theorem deckR_bd (l : List Int) (at' : Nat) (n : Int) : 0 ≤ (deckR l at' n).1 ∧ ((deckR l at' n).1 = 0 ∨ (deckR l at' n).1 < n) := by
 unfold deckR
 split
 ·simp
 ·have h1 := Int.emod_nonneg (l.getD at' 0) (show n ≠ 0 by omega)
  have h2 := Int.emod_lt_of_pos (l.getD at' 0) (show 0 < n by omega)
  exact ⟨h1, .inr h2⟩
theorem upd_self {α : Type} (f : Nat → α) (i : Nat) (x : α) (h : f i = x) : upd f i x = f := by
 funext j; by_cases e : j = i
 ·subst e; rw [upd_same, h]
 ·rw [upd_ne _ _ _ _ e]
abbrev ty_Deck : TypeId := 64
theorem ok_mk_New (σ : St) (l : List Int) : HC prog n_mk_New [.list 1 (ints l)] σ (fun r σ' => r = .ptr σ.n σ.c 2 0 0 ∧ σ' = σ.push 2 ty_Deck [deckV l 0]) := by
 refine HC_of_body b_mk_New (by simp) ?_
 simp only [c_mk_New, go_sem, jA, jB, jC, jD, jE, jF, jG, jH, jI, jJ, ↓reduceIte, reduceCtorEq, jP]
 simp [deckV]
theorem ok_mk_Deck_Next (σ : St) (id g : Nat) (ty : TypeId) (ap : Bool) (l : List Int) (at' : Nat) (n : Int) (hob : σ.ob id = some ⟨g, 2, ty, false, ap, [deckV l at']⟩) (hn : n ≤ 4611686018427387904) (hl : l.length ≤ 9223372036854775807) :
  HC prog n_mk_Deck_Next [.ptr id g 2 0 0, .int .i64 n] σ (fun r σ' => r = .int .i64 (deckR l at' n).1 ∧ σ' = ⟨upd σ.ob id (some ⟨g, 2, ty, false, ap, [deckV l (deckR l at' n).2]⟩), σ.n, σ.c⟩) := by
 obtain ⟨ob, nn, cc⟩ := σ
 simp only at hob
 refine HC_of_body b_mk_Deck_Next (by simp) ?_
 simp only [c_mk_Deck_Next, go_sem, jA, jB, jC, jD, jE, jF, jG, jH, jI, jJ, ↓reduceIte, reduceCtorEq, jP, hob, deckV]
 have no : (n < 1 ∨ l.length ≤ at') → AV.int IntKind.i64 0 = AV.int IntKind.i64 (deckR l at' n).fst ∧ St.mk ob nn cc = St.mk (upd ob id (some ⟨g, 2, ty, false, ap, [.agg [.list 1 (ints l), .int .i64 (deckR l at' n).2]]⟩)) nn cc := by
  intro h
  rw [show deckR l at' n = (0, at') by unfold deckR; rw [if_pos h]]
  exact ⟨rfl, by have h1 := upd_self ob id _ hob; simp only [deckV] at h1 ⊢; rw [h1]⟩
 refine gd_fd rfl (fun h => ?_) (fun h => ?_) <;> simp (maxSteps := 1000000) only [go_sem, jA, jB, jC, jD, jE, jF, jG, jH, jI, jJ, ↓reduceIte, reduceCtorEq, jP, hob, deckV, ints_length]
 ·exact no (.inl h)
 refine cond_d (fun h2 => ?_) (fun h2 => ?_) <;> simp (maxSteps := 1000000) only [go_sem, jA, jB, jC, jD, jE, jF, jG, jH, jI, jJ, ↓reduceIte, reduceCtorEq, jP, hob, deckV, ints_length, ints_get]
 ·exact no (.inr (by omega))
 have hat : at' < l.length := by omega
 have hg : l[at']? = some l[at'] := List.getElem?_eq_getElem hat
 have hd : deckR l at' n = (l[at'] % n, at' + 1) := by unfold deckR; rw [if_neg (by omega)]; simp [List.getD_eq_getElem?_getD, hg]
 simp (maxSteps := 1000000) (disch := omega) only [go_sem, jA, jB, jC, jD, jE, jF, jG, jH, jI, jJ, ↓reduceIte, reduceCtorEq, jP, hg, jO]
 refine ⟨by omega, by omega, call_pc (ok_mk_Mod _ n (by omega) (by omega)) (by simp [go_sem]) ?_⟩
 simp (maxSteps := 1000000) only [go_sem, jA, jB, jC, jD, jE, jF, jG, jH, jI, jJ, ↓reduceIte, reduceCtorEq, jP, hd]
 simp
def Deck0 (σ : St) (id g : Nat) (t : List Int) (W : AV → Prop) (r : AV) (σ' : St) : Prop := ∃ r2 at2, Pub ⟨fun i => if i < σ.n then none else σ'.ob i, σ'.n, σ'.c⟩ r r2 ∧ W r2 ∧ σ'.ob id = some ⟨g, 2, ty_Deck, false, true, [deckV t at2]⟩ ∧ ∀ i, i < σ.n → i ≠ id → σ'.ob i = σ.ob i
def DeckR (σ : St) (id g : Nat) (t : List Int) (W : AV → Prop) (r : AV) (σ' : St) : Prop := ∃ at2 c, W r ∧ σ' = ⟨upd (fun i => if i < σ.n then σ.ob i else none) id (some ⟨g, 2, ty_Deck, false, true, [deckV t at2]⟩), σ.n, c⟩
theorem HC.deck {f : Nat} {args : List AV} {σ : St} {id g : Nat} {t : List Int} {W : AV → Prop} (hid : id < σ.n) (h : HC prog f args σ (Deck0 σ id g t W)) : HC prog f args σ (DeckR σ id g t W) := by
 refine HC.trunc σ.n (HC.seal (fun i => decide (i < σ.n)) h ?_)
 rintro r σ' ⟨r2, at2, h1, h2, h3, h4⟩
 refine ⟨r2, by simpa using h1, at2, σ'.c, h2, ?_⟩
 simp only [St.trunc]
 congr 1
 funext i
 simp only [upd]
 by_cases e : i = id
 ·subst e; simp [hid, h3]
 ·rw [if_neg e]
  by_cases hi : i < σ.n
  ·simp [hi, h4 i hi e]
  ·simp [hi]
theorem DeckR.use {σ σ' : St} {id g : Nat} {t : List Int} {W : AV → Prop} {r : AV} (h : DeckR σ id g t W r σ') (hid : id < σ.n) :
  W r ∧ σ'.n = σ.n ∧ (∃ at2, σ'.ob id = some ⟨g, 2, ty_Deck, false, true, [deckV t at2]⟩) ∧ ∀ i, i < σ.n → i ≠ id → σ'.ob i = σ.ob i := by
 obtain ⟨at2, c, h1, rfl⟩ := h
 exact ⟨h1, rfl, ⟨at2, by simp [upd]⟩, fun i hi h2 => by simp [upd, h2, hi]⟩
theorem upd_upd {α : Type} (f : Nat → α) (i : Nat) (x y : α) : upd (upd f i x) i y = upd f i y := by funext j; by_cases e : j = i <;> simp [upd, e]
def NewSl (σ : St) (es : Nat) (ty : TypeId) (l : List AV) (r : AV) (σ' : St) : Prop := ∃ g c, r = .sl (σ.n + 1) g es 0 l.length ∧ σ' = ⟨upd (upd σ.ob σ.n none) (σ.n + 1) (some ⟨g, es, ty, false, true, l⟩), σ.n + 2, c⟩
def NewSl1 (σ : St) (es : Nat) (ty : TypeId) (l : List AV) (r : AV) (σ' : St) : Prop := ∃ g c o, r = .sl (σ.n + 1) g es 0 l.length ∧ σ' = ⟨upd (upd σ.ob σ.n (some o)) (σ.n + 1) (some ⟨g, es, ty, false, true, l⟩), σ.n + 2, c⟩
theorem HC.new {f : Nat} {args : List AV} {σ : St} {es : Nat} {ty : TypeId} {l : List AV} (h : HC prog f args σ (NewSl1 σ es ty l)) : HC prog f args σ (NewSl σ es ty l) := by
 refine h.sub ?_
 rintro r σ' ⟨g, c, o, rfl, rfl⟩
 refine ⟨_, ?_, g, c, rfl, rfl⟩
 intro i o' h
 simp only [upd] at h ⊢
 split at h
 ·rename_i hi; rw [if_pos hi]; exact h
 ·rename_i hi
  rw [if_neg hi]
  split at h
  ·cases h
  ·rename_i h2; rw [if_neg h2]; exact h
def NewO (σ : St) (es : Nat) (ty : TypeId) (L : List AV) (r : AV) (τ : St) : Prop := ∃ id g, r = .sl id g es 0 L.length ∧ σ.n ≤ id ∧ id < τ.n ∧ τ.ob id = some ⟨g, es, ty, false, true, L⟩ ∧ ∀ i, i < σ.n → τ.ob i = σ.ob i
def Oth (X : AV) (i : Nat) : Prop := ∀ g es o n, X ≠ .sl i g es o n
def SlR (es : Nat) (ty : TypeId) (σ : St) (L : List AV) (X : AV) : Prop := (X = .nil ∧ L = []) ∨ ∃ id g, X = .sl id g es 0 L.length ∧ id < σ.n ∧ σ.ob id = some ⟨g, es, ty, false, true, L⟩
theorem Oth.em {X : AV} {i : Nat} (h : ¬ ¬ Oth X i) : Oth X i := Classical.byContradiction h
theorem Oth.nil (i : Nat) : Oth .nil i := fun _ _ _ _ h => by cases h
theorem Oth.ne {id g es o n i : Nat} (h : Oth (.sl id g es o n) i) : ¬ id = i := fun e => h _ _ _ _ (by rw [e])
theorem Oth.sl {id g es o n i : Nat} (h : ¬ id = i) : Oth (.sl id g es o n) i := fun _ _ _ _ hh => by cases hh; exact h rfl
def Kp (σ : St) (X : AV) (τ : St) (X' : AV) : Prop := σ.n ≤ τ.n ∧ (∀ i, i < σ.n → Oth X i → τ.ob i = σ.ob i) ∧ ∀ i, i < σ.n → Oth X i → Oth X' i
theorem Kp.trans {σ τ ρ : St} {X Y Z : AV} (h : Kp σ X τ Y) (k : Kp τ Y ρ Z) : Kp σ X ρ Z :=
 ⟨Nat.le_trans h.1 k.1, fun i hi hx => (k.2.1 i (Nat.lt_of_lt_of_le hi h.1) (h.2.2 i hi hx)).trans (h.2.1 i hi hx), fun i hi hx => k.2.2 i (Nat.lt_of_lt_of_le hi h.1) (h.2.2 i hi hx)⟩
section
variable {es : Nat} {ty : TypeId} {σ τ : St} {L : List AV} {X : AV}
theorem SlR.nil : SlR es ty σ [] .nil := .inl ⟨rfl, rfl⟩
theorem SlR.one (h : SlR es ty σ L X) : X.one = true := by rcases h with ⟨rfl, _⟩ | ⟨id, g, rfl, _⟩ <;> rfl
theorem SlR.flat (h : SlR es ty σ L X) : X.flat = true := by rcases h with ⟨rfl, _⟩ | ⟨id, g, rfl, _⟩ <;> rfl
theorem SlR.cells (h : SlR es ty σ L X) : X.cells = [X] := by rcases h with ⟨rfl, _⟩ | ⟨id, g, rfl, _⟩ <;> rfl
theorem SlR.move (h : SlR es ty σ L X) (hn : σ.n ≤ τ.n) (ho : ∀ i, i < σ.n → ¬ Oth X i → τ.ob i = σ.ob i) : SlR es ty τ L X := by
 rcases h with h | ⟨id, g, rfl, h2, h3⟩
 ·exact .inl h
 ·exact .inr ⟨id, g, rfl, Nat.lt_of_lt_of_le h2 hn, by rw [ho id h2 (fun h => h _ _ _ _ rfl)]; exact h3⟩
theorem SlR.oth (h : SlR es ty σ L X) {i : Nat} (hi : σ.n ≤ i) : Oth X i := by
 rcases h with ⟨rfl, _⟩ | ⟨id, g, rfl, h2, _⟩
 ·exact Oth.nil i
 ·exact Oth.sl (by omega)
theorem SlR.pub (h : SlR es ty σ L X) (ho : ∀ i, i < σ.n → ¬ Oth X i → τ.ob i = σ.ob i) (hp : ∀ x ∈ L, x.pur = true) (hk : ∀ x ∈ L, okE es x) : Pub τ X (.list es L) := by
 rcases h with ⟨rfl, rfl⟩ | ⟨id, g, rfl, h2, h3⟩
 ·exact .nl es
 ·exact Pub.of_sl (by rw [ho id h2 (fun h => h _ _ _ _ rfl)]; exact h3) rfl hp hk
theorem app_slr {b : Nat} {a : AV} {K : AV → St → Prop} (h : SlR es ty σ L X) (hm : L.length + 1 ≤ 9223372036854775807) (hb : (L.length + 1) * b ≤ 140737488355328)
  (k : ∀ X' τ, SlR es ty τ (L ++ [a]) X' → Kp σ X τ X' → K X' τ) : appC es b ty X (.list es [a]) σ K := by
 rcases h with ⟨rfl, rfl⟩ | ⟨id, g, rfl, h2, h3⟩
 ·rw [jP]
  simp only [List.length_nil, Nat.zero_add] at hb
  refine ⟨by simp [maxLen], by simpa using hb, fun h => by simp at h, fun _ => k _ _ (.inr ⟨σ.n, σ.c, rfl, Nat.lt_succ_self _, by simp [St.push, upd]⟩) ⟨Nat.le_succ _, fun i hi _ => ?_, fun i hi _ => Oth.sl (by omega)⟩⟩
  simp only [St.push]; rw [upd_ne _ _ _ _ (by omega)]
 ·rw [w_app_ll]
  refine ⟨_, h3, rfl, rfl, rfl, rfl, rfl, rfl, by rw [mxL]; simpa using hm, by simpa using hb, k _ _ (.inr ⟨id, σ.c, by simp, h2, by simp [St.renew, upd]⟩) ⟨Nat.le_refl _, fun i hi hx => ?_, fun i hi hx => Oth.sl hx.ne⟩⟩
  simp only [St.renew]
  rw [upd_ne _ _ _ _ (fun e => hx.ne e.symm)]
theorem app_slrs {b : Nat} {M : List AV} {K : AV → St → Prop} (h : SlR es ty σ L X) (hm : L.length + M.length ≤ 9223372036854775807) (hb : (L.length + M.length) * b ≤ 140737488355328)
  (k : ∀ X' τ, SlR es ty τ (L ++ M) X' → Kp σ X τ X' → K X' τ) : appC es b ty X (.list es M) σ K := by
 rcases h with ⟨rfl, rfl⟩ | ⟨id, g, rfl, h2, h3⟩
 ·rw [jP]
  simp only [List.length_nil, Nat.zero_add] at hm hb
  refine ⟨by rw [mxL]; omega, hb, fun h => k _ _ (.inl ⟨rfl, by rw [h]; rfl⟩) ⟨Nat.le_refl _, fun _ _ _ => rfl, fun _ _ h => h⟩, fun _ => k _ _ (.inr ⟨σ.n, σ.c, rfl, Nat.lt_succ_self _, by simp [St.push, upd]⟩) ⟨Nat.le_succ _, fun i hi _ => ?_, fun i hi _ => Oth.sl (by omega)⟩⟩
  simp only [St.push]; rw [upd_ne _ _ _ _ (by omega)]
 ·rw [w_app_ll]
  refine ⟨_, h3, rfl, rfl, rfl, rfl, rfl, rfl, by rw [mxL]; exact hm, hb, k _ _ (.inr ⟨id, σ.c, by simp, h2, by simp [St.renew, upd]⟩) ⟨Nat.le_refl _, fun i hi hx => ?_, fun i hi hx => Oth.sl hx.ne⟩⟩
  simp only [St.renew]
  rw [upd_ne _ _ _ _ (fun e => hx.ne e.symm)]
end
theorem NewO.slr {σ : St} {es : Nat} {ty : TypeId} {L : List AV} {r : AV} {τ : St} (h : NewO σ es ty L r τ) : SlR es ty τ L r ∧ σ.n ≤ τ.n ∧ (∀ i, i < σ.n → τ.ob i = σ.ob i) ∧ ∀ i, i < σ.n → Oth r i := by
 obtain ⟨id, g, rfl, h1, h2, h3, h4⟩ := h
 exact ⟨.inr ⟨id, g, rfl, h2, h3⟩, by omega, h4, fun i hi => Oth.sl (by omega)⟩
inductive PubS (σ : St) : List AV → List AV → Prop
 | nil : PubS σ [] []
 | cons {a b : AV} {l r : List AV} (h : Pub σ a b) (k : PubS σ l r) : PubS σ (a :: l) (b :: r)
theorem PubS.get {σ : St} {l r : List AV} (h : PubS σ l r) : l.length = r.length ∧ ∀ (i : Nat) (x y : AV), l[i]? = some x → r[i]? = some y → Pub σ x y := by
 induction h with
 | nil => exact ⟨rfl, fun i x y h => by simp at h⟩
 | cons h k ih =>
  refine ⟨by simp [ih.1], fun i x y hx hy => ?_⟩
  cases i with
  | zero => simp at hx hy; subst hx; subst hy; exact h
  | succ i => exact ih.2 i x y (by simpa using hx) (by simpa using hy)
theorem Pub.ag {σ : St} {l r : List AV} (h : PubS σ l r) : Pub σ (.agg l) (.agg r) := .agg h.get.1 h.get.2
theorem Pub.tu {σ : St} {l r : List AV} (h : PubS σ l r) : Pub σ (.tuple l) (.tuple r) := .tuple h.get.1 h.get.2
theorem Pub.e {σ : St} {a : AV} (h : a.pur = true) : Pub σ a a := .pure h
def NlR (a b : AV) : Prop := ∀ (S : Nat → Prop) (w : World) (v : Value), VP S w a v → VP S w b v
theorem NlR.rfl {a : AV} : NlR a a := fun _ _ _ h => h
theorem NlR.nil (es : Nat) : NlR .nil (.list es []) := fun S w v h => by cases h; exact .listNil _ _ _
inductive NlRs : List AV → List AV → Prop
 | nil : NlRs [] []
 | cons {a b : AV} {l r : List AV} (h : NlR a b) (k : NlRs l r) : NlRs (a :: l) (b :: r)
theorem NlRs.get {l r : List AV} (h : NlRs l r) : l.length = r.length ∧ ∀ (j : Nat) (y : AV), r[j]? = some y → ∃ x, l[j]? = some x ∧ NlR x y := by
 induction h with
 | nil => exact ⟨Eq.refl _, fun j y h => by simp at h⟩
 | cons h k ih =>
  refine ⟨by simp [ih.1], fun j y hy => ?_⟩
  cases j with
  | zero => simp at hy; subst hy; exact ⟨_, Eq.refl _, h⟩
  | succ j => exact ih.2 j y (by simpa using hy)
theorem NlRs.refl : ∀ (l : List AV), NlRs l l
 | [] => .nil
 | _ :: l => .cons .rfl (NlRs.refl l)
theorem NlR.agg {l r : List AV} (h : NlRs l r) : NlR (.agg l) (.agg r) := fun S w v hv => by
 cases hv with
 | agg hl hh =>
  refine .agg (by rw [hl, h.get.1]) fun j y u hy hu => ?_
  obtain ⟨x, hx, hxy⟩ := h.get.2 j y hy
  exact hxy S w u (hh j x u hx hu)
theorem pc_nl {P : Program} {f : Nat} {args args' : List AV} {r : AV} (h : PC P f args' r) (k : NlRs args args') : PC P f args r :=
 ⟨h.1, fun S w vs hlt hv => h.2 S w vs hlt ⟨by rw [hv.1, k.get.1], fun j y u hy hu => by obtain ⟨x, hx, hxy⟩ := k.get.2 j y hy; exact hxy S w u (hv.2 j x u hx hu)⟩⟩
def ER (es : Nat) (σ : St) (L : List AV) (E : AV) : Prop :=
 (E = .nil ∧ L = []) ∨ E = .list es L ∨ ∃ id g off o, E = .sl id g es off L.length ∧ id < σ.n ∧ σ.ob id = some o ∧ o.g = g ∧ o.es = es ∧ off + L.length ≤ o.l.length ∧ (o.l.drop off).take L.length = L
theorem hkeep_lt {af : List Nat} {R : List (Nat × Nat)} {ob ob' : Nat → Option AObj} {n : Nat} (h : ∀ x ∈ R, x.2 < n) (k : ∀ i, i < n → ob' i = ob i) : hkeep af R ob ob' := fun x hx => .inr (k _ (h x hx))
theorem tagR_lt {p n : Nat} {l : List Nat} (h : ∀ i ∈ l, i < n) : ∀ x ∈ tagR p l, x.2 < n := fun x hx => by
 obtain ⟨i, hi, rfl⟩ := List.mem_map.1 hx
 exact h i hi
theorem app_lt {n : Nat} {R S : List (Nat × Nat)} (h : ∀ x ∈ R, x.2 < n) (k : ∀ x ∈ S, x.2 < n) : ∀ x ∈ R ++ S, x.2 < n := fun x hx => (List.mem_append.1 hx).elim (h x) (k x)
section
variable {es : Nat} {σ τ : St} {L : List AV} {E : AV}
theorem ER.of_slr {ty : TypeId} (h : SlR es ty σ L E) : ER es σ L E := by
 rcases h with h | ⟨id, g, rfl, h2, h3⟩
 ·exact .inl h
 ·exact .inr (.inr ⟨id, g, 0, _, rfl, h2, h3, rfl, rfl, by simp, by simp⟩)
theorem ER.of_sl {id g : Nat} {ty : TypeId} {ro ap : Bool} (h : σ.ob id = some ⟨g, es, ty, ro, ap, L⟩) (hn : id < σ.n) : ER es σ L (.sl id g es 0 L.length) := .inr (.inr ⟨id, g, 0, _, rfl, hn, h, rfl, rfl, by simp, by simp⟩)
theorem ER.list (es : Nat) (σ : St) (L : List AV) : ER es σ L (.list es L) := .inr (.inl rfl)
theorem ER.one (h : ER es σ L E) : E.one = true := by rcases h with ⟨rfl, _⟩ | rfl | ⟨_, _, _, _, rfl, _⟩ <;> rfl
theorem ER.flat (h : ER es σ L E) : E.flat = true := by rcases h with ⟨rfl, _⟩ | rfl | ⟨_, _, _, _, rfl, _⟩ <;> rfl
theorem ER.cells (h : ER es σ L E) : E.cells = [E] := by rcases h with ⟨rfl, _⟩ | rfl | ⟨_, _, _, _, rfl, _⟩ <;> rfl
theorem ER.oid (h : ER es σ L E) : ∀ i ∈ E.oid, i < σ.n := by
 rcases h with ⟨rfl, _⟩ | rfl | ⟨id, _, _, _, rfl, h, _⟩ <;> intro i hi
 ·cases hi
 ·cases hi
 ·obtain rfl : i = id := by simpa [AV.oid] using hi
  exact h
theorem ER.move (h : ER es σ L E) (hn : σ.n ≤ τ.n) (ho : ∀ i, i < σ.n → ¬ Oth E i → ∀ o, σ.ob i = some o → ∃ b, τ.ob i = some { o with ro := b }) : ER es τ L E := by
 rcases h with h | h | ⟨id, g, off, o, rfl, h1, h2, h3, h4, h5, h6⟩
 ·exact .inl h
 ·exact .inr (.inl h)
 ·obtain ⟨b, hb⟩ := ho id h1 (fun h => h _ _ _ _ rfl) o h2
  exact .inr (.inr ⟨id, g, off, _, rfl, Nat.lt_of_lt_of_le h1 hn, hb, h3, h4, h5, h6⟩)
theorem ER.keep (h : ER es σ L E) (hn : σ.n ≤ τ.n) (ho : ∀ i, i < σ.n → ¬ Oth E i → τ.ob i = σ.ob i) : ER es τ L E :=
 h.move hn fun i hi h2 o h3 => ⟨o.ro, by rw [ho i hi h2]; exact h3⟩
theorem ER.pub (h : ER es σ L E) (hp : ∀ x ∈ L, x.pur = true) (hk : ∀ x ∈ L, okE es x) (ho : ∀ i, i < σ.n → ¬ Oth E i → ∀ o, σ.ob i = some o → ∃ b, τ.ob i = some { o with ro := b }) : Pub τ E (.list es L) := by
 rcases h with ⟨rfl, rfl⟩ | rfl | ⟨id, g, off, o, rfl, h1, h2, h3, h4, h5, h6⟩
 ·exact .nl es
 ·exact .pure rfl
 ·obtain ⟨b, hb⟩ := ho id h1 (fun h => h _ _ _ _ rfl) o h2
  refine .sl hb h3 h4 h5 (by simp only []; rw [h6]) (fun i x y hx hy => ?_) hk
  simp only [] at hx
  rw [h6, hy] at hx
  obtain rfl := Option.some.inj hx
  exact .pure (hp _ (List.mem_of_getElem? hy))
theorem ER.len (h : ER es σ L E) {K : AV → St → Prop} (k : K (.int .i64 L.length) σ) : lenC E σ K := by
 rcases h with ⟨rfl, rfl⟩ | rfl | ⟨id, g, off, o, rfl, _⟩
 ·simpa [lenC] using k
 ·simpa [lenC] using k
 ·simpa [lenC] using k
theorem ER.drop {K : AV → St → Prop} {kd : IntKind} {lo : Int} {k : Nat} (h : ER es σ L E) (hlo : lo = k) (hk : k ≤ L.length) (f : ∀ E', ER es σ (L.drop k) E' → (∀ i, Oth E i → Oth E' i) → K E' σ) : slcC es E (some (.int kd lo)) none σ K := by
 subst hlo
 rcases h with ⟨rfl, rfl⟩ | rfl | ⟨id, g, off, o, rfl, h1, h2, h3, h4, h5, h6⟩
 ·obtain rfl : k = 0 := by simpa using hk
  exact ⟨by simp, by simp, f _ (.inl ⟨rfl, rfl⟩) fun _ h => h⟩
 ·refine ⟨rfl, by omega, by simpa using hk, ?_⟩
  show K (.list es ((L.take L.length).drop (k : Int).toNat)) σ
  rw [List.take_length, Int.toNat_natCast]
  exact f _ (.inr (.inl rfl)) fun _ _ _ _ _ _ h => (by cases h)
 ·refine ⟨rfl, ⟨_, h2, h3⟩, by omega, by simpa using hk, ?_⟩
  show ((k : Int).toNat = L.length → K (.list es []) σ) ∧ ((k : Int).toNat < L.length → K (.sl id g es (off + (k : Int).toNat) (L.length - (k : Int).toNat)) σ)
  rw [Int.toNat_natCast]
  refine ⟨fun h => f _ (.inr (.inl ?_)) fun _ _ _ _ _ _ h => (by cases h), fun h => f _ (.inr (.inr ⟨id, g, off + k, o, by simp, h1, h2, h3, h4, by simp; omega, ?_⟩)) fun i hi => Oth.sl (Oth.ne hi)⟩
  ·rw [h, List.drop_length]
  ·have := congrArg (List.drop k) h6
   rw [← this]
   simp [List.drop_take, Nat.min_eq_left (show L.length - k ≤ o.l.length - (off + k) by omega)]
theorem ER.take {K : AV → St → Prop} {kd : IntKind} {hi : Int} {k : Nat} (h : ER es σ L E) (hhi : hi = k) (hk : k ≤ L.length) (f : ∀ E', ER es σ (L.take k) E' → (∀ i, Oth E i → Oth E' i) → K E' σ) : slcC es E none (some (.int kd hi)) σ K := by
 subst hhi
 rcases h with ⟨rfl, rfl⟩ | rfl | ⟨id, g, off, o, rfl, h1, h2, h3, h4, h5, h6⟩
 ·obtain rfl : k = 0 := by simpa using hk
  exact ⟨by simp, by simp, f _ (.inl ⟨rfl, rfl⟩) fun _ h => h⟩
 ·refine ⟨rfl, by omega, by simpa using hk, ?_⟩
  show K (.list es ((L.take (k : Int).toNat).drop 0)) σ
  rw [List.drop_zero, Int.toNat_natCast]
  exact f _ (.inr (.inl rfl)) fun _ _ _ _ _ _ h => (by cases h)
 ·refine ⟨rfl, ⟨_, h2, h3⟩, by omega, by simpa using hk, ?_⟩
  show (0 = (k : Int).toNat → K (.list es []) σ) ∧ (0 < (k : Int).toNat → K (.sl id g es off (k : Int).toNat) σ)
  rw [Int.toNat_natCast]
  refine ⟨fun h => f _ (.inr (.inl ?_)) fun _ _ _ _ _ _ h => (by cases h), fun h => f _ (.inr (.inr ⟨id, g, off, o, by simp [Nat.min_eq_left hk], h1, h2, h3, h4, by simp; omega, ?_⟩)) fun i hi => Oth.sl (Oth.ne hi)⟩
  ·rw [← h]; simp
  ·have := congrArg (List.take k) h6
   rw [← this]
   simp [List.take_take, Nat.min_eq_left (show min k L.length ≤ o.l.length - off by omega)]
theorem app_er {b : Nat} {ty : TypeId} {X : AV} {K : AV → St → Prop} (h : ER es σ L E) (k : appC es b ty X (.list es L) σ K) : appC es b ty X E σ K := by
 rcases h with ⟨rfl, rfl⟩ | rfl | ⟨id, g, off, o, rfl, h1, h2, h3, h4, h5, h6⟩
 ·obtain ⟨_, _, k⟩ := k
  exact ⟨fun _ _ h => (by cases h), fun _ _ _ _ _ h => (by rcases h with h | ⟨_, h⟩ <;> cases h), k⟩
 ·exact k
 ·obtain ⟨_, _, k⟩ := k
  refine ⟨fun _ _ h => (by cases h), fun _ _ _ _ _ h => (by rcases h with h | ⟨_, h⟩ <;> cases h; rfl), o, h2, h3, h4, h5, ?_⟩
  rw [h6]
  exact k
end
def fewB (t : List Int) : Bool := decide ((t.length : Int) ≤ 500)
theorem ok_mk_Few (t : List Int) : PC prog n_mk_Few [.list 1 (ints t)] (.bool (fewB t)) := by
 refine PC_of_body b_mk_Few (by simp) ?_
 simp only [c_mk_Few, go_sem, jA, jB, jC, jD, jE, jF, jG, jH, jI, jJ, ↓reduceIte, reduceCtorEq, jP, ints_length]
 exact Pub.of_eq rfl rfl
theorem eq_of_get {α : Type} {a b : List α} (hl : a.length = b.length) (h : ∀ j, j < a.length → a[j]? = b[j]?) : a = b := by
 apply List.ext_getElem? ; intro j
 by_cases hj : j < a.length
 ·exact h j hj
 ·rw [List.getElem?_eq_none (by omega), List.getElem?_eq_none (by omega)]
theorem shInts {c : List AV} (h : (Sh.slice 1 (.int .i64)).R c) : ∃ L : List Int, c = [.list 1 (ints L)] ∧ L.length ≤ 9223372036854775807 ∧ ∀ n ∈ L, (Lit.int .i64 n).wf = true := by
 obtain ⟨xs, rfl, hl, h⟩ := h
 obtain ⟨L, rfl, hL⟩ := exists_map (f := AV.int .i64) (Q := fun n => (Lit.int .i64 n).wf = true) fun x hx => by
  obtain ⟨cs, hr, _, rfl⟩ := h x hx
  obtain ⟨a, rfl, ha⟩ := hr
  exact ⟨a, ha, rfl⟩
 exact ⟨L, rfl, by simpa using hl, hL⟩
theorem wf_u8 {n : Int} (h : (Lit.int .u8 n).wf = true) : 0 ≤ n ∧ n ≤ 255 := by
 simp [Lit.wf, IntKind.min, IntKind.max, IntKind.signed, IntKind.bits] at h; omega
inductive MP (σ : St) : AV → AV → Prop
 | same (a : AV) : MP σ a a
 | pub {a b : AV} (h : Pub σ a b) : MP σ a b
 | agg {cs ds : List AV} (h5 : cs.length = ds.length) (h6 : ∀ (i : Nat) (x y : AV), cs[i]? = some x → ds[i]? = some y → MP σ x y) : MP σ (.agg cs) (.agg ds)
 | tuple {cs ds : List AV} (h5 : cs.length = ds.length) (h6 : ∀ (i : Nat) (x y : AV), cs[i]? = some x → ds[i]? = some y → MP σ x y) : MP σ (.tuple cs) (.tuple ds)
inductive MPs (σ : St) : List AV → List AV → Prop
 | nil : MPs σ [] []
 | cons {a b : AV} {l r : List AV} (h : MP σ a b) (k : MPs σ l r) : MPs σ (a :: l) (b :: r)
theorem MPs.get {σ : St} {l r : List AV} (h : MPs σ l r) : l.length = r.length ∧ ∀ (i : Nat) (x y : AV), l[i]? = some x → r[i]? = some y → MP σ x y := by
 induction h with
 | nil => exact ⟨rfl, fun i x y h => by simp at h⟩
 | cons h k ih =>
  refine ⟨by simp [ih.1], fun i x y hx hy => ?_⟩
  cases i with
  | zero => simp at hx hy; subst hx; subst hy; exact h
  | succ i => exact ih.2 i x y (by simpa using hx) (by simpa using hy)
theorem MPs.app {σ : St} {l r l' r' : List AV} (h : MPs σ l r) (k : MPs σ l' r') : MPs σ (l ++ l') (r ++ r') := by
 induction h with
 | nil => exact k
 | cons h _ ih => exact .cons h ih
theorem MPs.refl {σ : St} : ∀ l : List AV, MPs σ l l
 | [] => .nil
 | _ :: l => .cons (.same _) (MPs.refl l)
theorem MP.ag {σ : St} {l r : List AV} (h : MPs σ l r) : MP σ (.agg l) (.agg r) := .agg h.get.1 h.get.2
theorem MP.tu {σ : St} {l r : List AV} (h : MPs σ l r) : MP σ (.tuple l) (.tuple r) := .tuple h.get.1 h.get.2
def MO (σ : St) (o o2 : AObj) : Prop := o2 = o ∨ (o2 = { o with l := o2.l } ∧ okL o.es o2.l ∧ o2.l.length = o.l.length ∧ MPs σ (flatL o.l) (flatL o2.l))
theorem MO.g {σ : St} {o o2 : AObj} (h : MO σ o o2) : o2.g = o.g := by
 rcases h with rfl | ⟨h, _⟩
 ·rfl
 ·rw [h]
theorem MO.ro {σ : St} {o o2 : AObj} (h : MO σ o o2) : o2.ro = o.ro := by
 rcases h with rfl | ⟨h, _⟩
 ·rfl
 ·rw [h]
structure Grp (σ : St) (lo : Nat) (X : AV) (Es : List AV) : Prop where
 low : ∀ i, ¬ Oth X i → lo ≤ i ∧ i < σ.n
 loE : ∀ E ∈ Es, ∀ i, ¬ Oth E i → lo ≤ i ∧ i < σ.n
 sep : ∀ E ∈ Es, ∀ i, ¬ Oth E i → Oth X i
 dj : ∀ (a b : Nat) (E F : AV), a ≠ b → Es[a]? = some E → Es[b]? = some F → ∀ i, ¬ Oth E i → Oth F i
theorem Grp.nil (σ : St) (lo : Nat) : Grp σ lo .nil [] := ⟨fun i h => absurd (Oth.nil i) h, fun _ h => (by cases h), fun _ h => (by cases h), fun a b E F _ h => (by simp at h)⟩
theorem snoc_get {α : Type} {l : List α} {x y : α} {a : Nat} (h : (l ++ [x])[a]? = some y) : (a < l.length ∧ l[a]? = some y) ∨ (a = l.length ∧ y = x) := by
 by_cases ha : a < l.length
 ·rw [List.getElem?_append_left ha] at h; exact .inl ⟨ha, h⟩
 ·rw [List.getElem?_append_right (by omega)] at h
  obtain ⟨h1, h2⟩ := List.getElem?_eq_some_iff.1 h
  simp at h1
  have h3 : a = l.length := by omega
  subst h3
  simp at h2
  exact .inr ⟨rfl, h2.symm⟩
theorem Grp.snoc {σ τ ρ : St} {lo : Nat} {X X' E : AV} {Es : List AV} (h : Grp σ lo X Es) (hlo : lo ≤ σ.n) (hn : σ.n ≤ τ.n) (hE : ∀ i, ¬ Oth E i → σ.n ≤ i ∧ i < τ.n) (k : Kp τ X ρ X') (hX : ∀ i, ρ.n ≤ i → Oth X' i) : Grp ρ lo X' (Es ++ [E]) := by
 obtain ⟨k1, k2, k3⟩ := k
 have hEs : ∀ F ∈ Es, ∀ i, ¬ Oth F i → i < σ.n := fun F hF i hi => (h.loE F hF i hi).2
 refine ⟨fun i hi => ?_, fun F hF i hi => ?_, fun F hF i hi => ?_, fun a b F G hab hF hG i hi => ?_⟩
 ·refine ⟨?_, Nat.lt_of_not_le fun hh => hi (hX i hh)⟩
  by_cases h1 : i < τ.n
  ·exact (h.low i fun h2 => hi (k3 i h1 h2)).1
  ·omega
 ·rcases List.mem_append.1 hF with hF | hF
  ·have := h.loE F hF i hi; omega
  ·obtain rfl : F = E := by simpa using hF
   have := hE i hi; omega
 ·rcases List.mem_append.1 hF with hF | hF
  ·exact k3 i (by have := hEs F hF i hi; omega) (h.sep F hF i hi)
  ·obtain rfl : F = E := by simpa using hF
   have := hE i hi
   exact k3 i this.2 (Oth.em fun h2 => by have := (h.low i h2).2; omega)
 ·rcases snoc_get hF with ⟨_, hF2⟩ | ⟨ha, rfl⟩ <;> rcases snoc_get hG with ⟨_, hG2⟩ | ⟨hb, rfl⟩
  ·exact h.dj a b F G hab hF2 hG2 i hi
  ·exact Oth.em fun h2 => by have := hE i h2; have := hEs F (List.mem_of_getElem? hF2) i hi; omega
  ·exact Oth.em fun h2 => by have := hE i hi; have := hEs G (List.mem_of_getElem? hG2) i h2; omega
  ·omega
theorem Grp.up {σ τ : St} {lo : Nat} {X : AV} {Es : List AV} (h : Grp σ lo X Es) (hn : σ.n ≤ τ.n) : Grp τ lo X Es :=
 ⟨fun i hi => ⟨(h.low i hi).1, Nat.lt_of_lt_of_le (h.low i hi).2 hn⟩, fun E hE i hi => ⟨(h.loE E hE i hi).1, Nat.lt_of_lt_of_le (h.loE E hE i hi).2 hn⟩, h.sep, h.dj⟩
def IC (es : Nat) (ty : TypeId) (σ : St) (Es : List AV) (Ls : List (List AV)) : Prop := Es.length = Ls.length ∧ ∀ (i : Nat) (E : AV) (L : List AV), Es[i]? = some E → Ls[i]? = some L → SlR es ty σ L E
theorem IC.nil (es : Nat) (ty : TypeId) (σ : St) : IC es ty σ [] [] := ⟨rfl, fun i E L h => by simp at h⟩
theorem IC.move {es : Nat} {ty : TypeId} {σ τ : St} {Es : List AV} {Ls : List (List AV)} (h : IC es ty σ Es Ls) (hn : σ.n ≤ τ.n) (ho : ∀ E ∈ Es, ∀ i, ¬ Oth E i → i < σ.n → τ.ob i = σ.ob i) : IC es ty τ Es Ls :=
 ⟨h.1, fun i E L hE hL => (h.2 i E L hE hL).move hn fun j hj hh => ho E (List.mem_of_getElem? hE) j hh hj⟩
theorem IC.snoc {es : Nat} {ty : TypeId} {σ : St} {Es : List AV} {Ls : List (List AV)} {E : AV} {L : List AV} (h : IC es ty σ Es Ls) (k : SlR es ty σ L E) : IC es ty σ (Es ++ [E]) (Ls ++ [L]) := by
 refine ⟨by simp [h.1], fun i F M hF hM => ?_⟩
 rcases snoc_get hF with ⟨h1, hF⟩ | ⟨h1, rfl⟩ <;> rcases snoc_get hM with ⟨h2, hM⟩ | ⟨h2, rfl⟩
 ·exact h.2 i F M hF hM
 ·have := h.1; omega
 ·have := h.1; omega
 ·exact k
theorem SlR.up {es : Nat} {ty : TypeId} {σ τ : St} {L : List AV} {X : AV} (h : SlR es ty σ L X) (hn : σ.n ≤ τ.n) (ho : ∀ i, i < σ.n → ¬ Oth X i → τ.ob i = σ.ob i) : SlR es ty τ L X := h.move hn ho
theorem SlR.lt {es : Nat} {ty : TypeId} {σ : St} {L : List AV} {X : AV} (h : SlR es ty σ L X) {i : Nat} (hi : ¬ Oth X i) : i < σ.n := Nat.lt_of_not_le fun hh => hi (h.oth hh)
theorem pub_slx {es : Nat} {ty : TypeId} {σ τ : St} {L M : List AV} {X : AV} (h : SlR es ty σ L X) (ho : ∀ i, i < σ.n → ¬ Oth X i → τ.ob i = σ.ob i) (hl : L.length = M.length)
  (hp : ∀ (i : Nat) (x y : AV), L[i]? = some x → M[i]? = some y → Pub τ x y) (hk : ∀ x ∈ M, okE es x) : Pub τ X (.list es M) := by
 rcases h with ⟨rfl, rfl⟩ | ⟨id, g, rfl, h2, h3⟩
 ·obtain rfl : M = [] := List.eq_nil_of_length_eq_zero (by simpa using hl.symm)
  exact .nl es
 ·exact .sl ((ho id h2 fun h => h _ _ _ _ rfl).trans h3) rfl rfl (by simp) (by simpa using hl) (by simpa using hp) hk
theorem IC.pub {es : Nat} {ty : TypeId} {σ τ : St} {Es : List AV} {Ls : List (List AV)} (h : IC es ty σ Es Ls) (ho : ∀ E ∈ Es, ∀ i, i < σ.n → ¬ Oth E i → τ.ob i = σ.ob i)
  (hp : ∀ L ∈ Ls, ∀ x ∈ L, x.pur = true) (hk : ∀ L ∈ Ls, ∀ x ∈ L, okE es x) : ∀ (i : Nat) (E : AV) (L : List AV), Es[i]? = some E → Ls[i]? = some L → Pub τ E (.list es L) := fun i E L hE hL =>
 (h.2 i E L hE hL).pub (ho E (List.mem_of_getElem? hE)) (hp L (List.mem_of_getElem? hL)) (hk L (List.mem_of_getElem? hL))
theorem tr_ob {ob : Nat → Option AObj} {n c i : Nat} (h : i < n) : ((⟨ob, n, c⟩ : St).trunc n).ob i = ob i := by simp only [St.trunc, if_pos h]
def At (e : Nat → AV) (i : Nat) (X : AV) : Prop := e i = X
theorem take_snocA {α : Type} (l : List α) (k : Nat) (h : k < l.length) : l.take (k + 1) = l.take k ++ [l[k]] := by
 rw [List.take_add_one, List.getElem?_eq_getElem h]; rfl
theorem SlR.tr {es : Nat} {ty : TypeId} {ob : Nat → Option AObj} {n c : Nat} {L : List AV} {X : AV} (h : SlR es ty ⟨ob, n, c⟩ L X) : SlR es ty ((⟨ob, n, c⟩ : St).trunc n) L X :=
 h.move (by simp only [St.trunc]; omega) fun i hi _ => by simp only at hi; simp only [St.trunc, if_pos hi]
theorem PC.nl {P : Program} {f : Nat} {args : List AV} {r r' : AV} (h : PC P f args r) (k : NlR r r') : PC P f args r' :=
 ⟨h.1, fun S w vs hS hv => (h.2 S w vs hS hv).mono fun x w' ⟨v, S', h1, h2, h3, h4, h5⟩ => ⟨v, S', h1, h2, h3, h4, k S' w' v h5⟩⟩
structure Pn where
 id : Int
 role : Int
 key : Int
 deriving DecidableEq, Inhabited
structure Dv where
 id : Int
 site : Int
 fr : Int
 to : Int
 rel : Int
 sg : List Int
 wd : Bool
 deriving DecidableEq, Inhabited
structure Dk where
 ps : List Pn
 nx : Int
 ds : List Dv
 deriving DecidableEq
def pnv (p : Pn) : AV := .agg [.int .i64 p.id, .int .i64 p.role, .int .i64 p.key]
def pns (l : List Pn) : List AV := l.map pnv
def dvX (d : Dv) (E : AV) : AV := .agg [.int .i64 d.id, .int .i64 d.site, .int .i64 d.fr, .int .i64 d.to, .int .i64 d.rel, E, .bool d.wd]
def dvv (d : Dv) : AV := dvX d (.list 1 (ints d.sg))
def dvs (l : List Dv) : List AV := l.map dvv
def dkv (K : Dk) : AV := .agg [.list 3 (pns K.ps), .int .i64 K.nx, .list 7 (dvs K.ds)]
def pn0 : Pn := ⟨0, 0, 0⟩
def dk0 : Dk := ⟨[], 0, []⟩
theorem pns_length (l : List Pn) : (pns l).length = l.length := by simp [pns]
theorem pns_get (l : List Pn) (i : Nat) : (pns l)[i]? = (l[i]?).map pnv := by simp [pns]
theorem pns_pur (l : List Pn) : ∀ x ∈ pns l, x.pur = true := by simp [pns, pnv, go_sem]
theorem pns_ok (l : List Pn) : ∀ x ∈ pns l, okE 3 x := by simp [pns, pnv, okE, go_sem]
theorem dvs_length (l : List Dv) : (dvs l).length = l.length := by simp [dvs]
theorem dvs_get (l : List Dv) (i : Nat) : (dvs l)[i]? = (l[i]?).map dvv := by simp [dvs]
theorem dvv_pur (d : Dv) : (dvv d).pur = true := by simp [dvv, dvX, go_sem, ints_pur]
theorem dvs_pur (l : List Dv) : ∀ x ∈ dvs l, x.pur = true := by simp [dvs, dvv_pur]
theorem dvs_ok (l : List Dv) : ∀ x ∈ dvs l, okE 7 x := by simp [dvs, dvv, dvX, okE, go_sem]
theorem dkv_pur (K : Dk) : (dkv K).pur = true := by simp [dkv, go_sem, pns_pur, dvs_pur]
def dv0 : Dv := ⟨0, 0, 0, 0, 0, [], false⟩
theorem dv0_fold : AV.agg [.int .i64 0, .int .i64 0, .int .i64 0, .int .i64 0, .int .i64 0, .nil, .bool false] = dvX dv0 .nil := rfl
theorem dvv_put (d e : Dv) : setc 0 (dvv d) (dvX e .nil) = dvv d := rfl
theorem dvv_flat (d : Dv) : (dvv d).flat = true := rfl
theorem dvv_len (d : Dv) : (dvv d).cells.length = 7 := rfl
theorem dvv_tk (d : Dv) : AV.agg ((dvv d).cells.take 7) = dvv d := rfl
theorem dvv_dt (d : Dv) : AV.agg (((dvv d).cells.drop 0).take 7) = dvv d := rfl
theorem dvv_ct (d : Dv) : (dvv d).cells.take 7 = (dvv d).cells := rfl
theorem dvv_ca (d : Dv) : AV.agg (dvv d).cells = dvv d := rfl
theorem dvv_one (d : Dv) : (dvv d).cells.all AV.one = true := rfl
theorem dvv_0 (d : Dv) : (dvv d).cells.getD 0 .junk = .int .i64 d.id := rfl
theorem dvv_3 (d : Dv) : (dvv d).cells.getD 3 .junk = .int .i64 d.to := rfl
theorem dvv_6 (d : Dv) : (dvv d).cells.getD 6 .junk = .bool d.wd := rfl
def inD (x a b : Int) : Bool := decide (a ≤ x) && decide (x ≤ b)
def codeL : Int → List Int → Int
 | c, [] => c
 | c, n :: l => codeL ((31 * c + ((n.tmod 2147483647 + 2147483647).tmod 2147483647)).tmod 2147483647) l
def codeI (key kind : Int) (d : Dv) : List Int := [key, kind, d.id, d.site, d.fr, d.to, d.rel]
def codeS (key kind : Int) (d : Dv) : Int := codeL 7 (codeI key kind d)
def prsS (K : Dk) (id : Int) : Pn × Bool := match K.ps.find? fun p => decide (p.id = id) with
 | some p => (p, true)
 | none => (pn0, false)
def rolesS (K : Dk) (l : List Int) : List Int := l.map fun s => (prsS K s).1.role
def rgtS (K : Dk) (d : Dv) : Bool :=
 inD d.site 0 5 && !decide (d.fr < 0) && !decide (d.to < d.fr) && !decide (16777216 < d.to) && inD d.rel 0 1073741824 && decide (d.sg.length ≤ 2) && d.sg.all (fun s => (prsS K s).2) &&
 (decide (d.sg.length < 2) || !decide ((rolesS K d.sg).getD 0 0 = (rolesS K d.sg).getD 1 0))
def gP (l : List Pn) (i : Nat) : Pn := l.getD i default
def gD (l : List Dv) (i : Nat) : Dv := l.getD i default
theorem gP_get {l : List Pn} {i : Nat} (h : i < l.length) : l[i]? = some (gP l i) := by simp [gP, List.getD_eq_getElem?_getD, h]
theorem gD_get {l : List Dv} {i : Nat} (h : i < l.length) : l[i]? = some (gD l i) := by simp [gD, List.getD_eq_getElem?_getD, h]
def okP (K : Dk) (i : Nat) : Bool := inD (gP K.ps i).id 1 1073741824 && !(decide (0 < i) && decide ((gP K.ps i).id ≤ (gP K.ps (i - 1)).id)) && inD (gP K.ps i).role 1 9 && inD (gP K.ps i).key 1 1073741824
def okD (K : Dk) (i : Nat) : Bool := inD (gD K.ds i).id 1 (K.nx - 1) && !(decide (0 < i) && decide ((gD K.ds i).id ≤ (gD K.ds (i - 1)).id)) && rgtS K (gD K.ds i)
def chkD (K : Dk) : Bool := decide (K.ps.length ≤ 12) && inD K.nx 1 1073741824 && decide (K.ds.length ≤ 64) && (List.range K.ps.length).all (okP K) && (List.range K.ds.length).all (okD K)
def chkDS (K : Dk) : Int := if chkD K then 0 else 50
def reqS (K : Dk) (site fr to rel : Int) : Dk × Int × Int :=
 if chkD K = false then (dk0, 0, 50) else if inD site 0 5 = false then (dk0, 0, 40) else if fr < 0 ∨ to < fr ∨ 16777216 < to then (dk0, 0, 6) else if inD rel 0 1073741824 = false then (dk0, 0, 1) else
 if K.ds.length = 64 ∨ K.nx = 1073741824 then (dk0, 0, 10) else (⟨K.ps, K.nx + 1, K.ds ++ [⟨K.nx, site, fr, to, rel, [], false⟩]⟩, K.nx, 0)
def askG (K : Dk) (id who code now kind : Int) : List Dv → Nat → Int × Pn × Int
 | [], _ => (0, pn0, 9)
 | d :: l, i => if d.id ≠ id then askG K id who code now kind l (i + 1) else if d.wd = true ∨ d.to < now then (0, pn0, 44) else if (prsS K who).2 = false then (0, pn0, 11) else
  if code ≠ codeS (prsS K who).1.key kind d then (0, pn0, 43) else ((i : Int), (prsS K who).1, 0)
def askS (K : Dk) (id who code now kind : Int) : Int × Pn × Int := if chkD K = false then (0, pn0, 50) else askG K id who code now kind K.ds 0
def sgnE (K : Dk) (who role : Int) : List Int → Int
 | [] => 0
 | s :: l => if s = who then 46 else if (prsS K s).1.role = role then 5 else sgnE K who role l
def sgnS (K : Dk) (id who code now : Int) : Dk × Int :=
 let a := askS K id who code now 1
 if a.2.2 ≠ 0 then (dk0, a.2.2) else
 let d := gD K.ds a.1.toNat
 if d.sg.length = 2 then (dk0, 46) else if sgnE K who a.2.1.role d.sg ≠ 0 then (dk0, sgnE K who a.2.1.role d.sg) else (⟨K.ps, K.nx, K.ds.set a.1.toNat { d with sg := d.sg ++ [who] }⟩, 0)
def wdrS (K : Dk) (id who code now : Int) : Dk × Int :=
 let a := askS K id who code now 2
 if a.2.2 ≠ 0 then (dk0, a.2.2) else (⟨K.ps, K.nx, K.ds.set a.1.toNat { gD K.ds a.1.toNat with wd := true }⟩, 0)
theorem ok_ref26_in (x a b : Int) : PC prog n_ref26_in [.int .i64 x, .int .i64 a, .int .i64 b] (.bool (inD x a b)) := by
 refine PC_of_body b_ref26_in (by simp) ?_
 simp only [c_ref26_in, inD]
 try simp (disch := omega) only [go_sem, jA, jB, jC, jD, jE, jF, jG, jH, jI, jJ, ↓reduceIte, reduceCtorEq, jO, jM, jN, jK, jL]
 refine gd_td rfl (fun h => ?_) (fun h => ?_) <;> try simp (disch := omega) only [go_sem, jA, jB, jC, jD, jE, jF, jG, jH, jI, jJ, ↓reduceIte, reduceCtorEq, jO, jM, jN, jK, jL]
 ·exact Pub.of_eq (by simp [h]) rfl
 ·exact Pub.of_eq (by simp [h]) rfl
theorem find_snoc {α : Type} {l : List α} {q : α → Bool} {i : Nat} (hi : i < l.length) (h : (l.take i).find? q = none) : (l.take (i + 1)).find? q = if q l[i] = true then some l[i] else none := by
 rw [List.take_add_one, List.getElem?_eq_getElem hi, List.find?_append, h]
 simp [List.find?_cons]
 split <;> simp_all
theorem find_hit {α : Type} {l : List α} {q : α → Bool} {i : Nat} (hi : i < l.length) (h : (l.take i).find? q = none) (hq : q l[i] = true) : l.find? q = some l[i] := by
 have h1 := find_snoc hi h
 rw [if_pos hq] at h1
 have h2 : ∀ x, x = some l[i] → (l.take (i + 1)).find? q = x → l.find? q = x := fun x hx h3 => by
  rw [← List.take_append_drop (i + 1) l, List.find?_append, h3, hx]; rfl
 exact h2 _ rfl h1
theorem ok_ref26_person (K : Dk) (id : Int) (hl : K.ps.length ≤ 9223372036854775807) : PC prog n_ref26_person [dkv K, .int .i64 id] (.tuple [pnv (prsS K id).1, .bool (prsS K id).2]) := by
 refine PC_of_body b_ref26_person (by simp) ?_
 simp only [c_ref26_person, dkv]
 try simp (disch := omega) only [go_sem, jA, jB, jC, jD, jE, jF, jG, jH, jI, jJ, ↓reduceIte, reduceCtorEq, jO, jM, jN, jK, jL, pns_length]
 refine awp_upG [5, 7, 11, 12, 13, 14, 15, 16, 17, 18, 19, 20] (by kernel_rfl) K.ps.length (fun i e σ => e 11 = .int .i64 i ∧ (K.ps.take i).find? (fun p => decide (p.id = id)) = none ∧ σ.ob 1 = some ⟨1, 3, 62, false, true, [.agg [.int .i64 0, .int .i64 0, .int .i64 0]]⟩) ?_ ?_
 ·exact ⟨(by first | rfl | (simp (disch := omega) only [go_sem, jA, jB, jC, jD, jE, jF, jG, jH, jI, jJ, ↓reduceIte, reduceCtorEq, jP, jO, jM, jN]; try rfl)), rfl, by try simp (disch := omega) only [go_sem, jA, jB, jC, jD, jE, jF, jG, jH, jI, jJ, ↓reduceIte, reduceCtorEq, jO, jM, jN, jK, jL]⟩
 rintro i fe ob m c hi hm ⟨h11, hf, h1⟩
 simp (maxSteps := 1000000) only [go_sem, jA, jB, jC, jD, jE, jF, jG, jH, jI, jJ, ↓reduceIte, reduceCtorEq, jP] at h11 h1 hm
 try simp (disch := omega) only [go_sem, jA, jB, jC, jD, jE, jF, jG, jH, jI, jJ, ↓reduceIte, reduceCtorEq, jO, jM, jN, jK, jL, h11]
 refine cond_d (fun hlt => ?_) (fun hge => ?_)
 ·have hil : i < K.ps.length := by omega
  have hg : K.ps[i]? = some K.ps[i] := List.getElem?_eq_getElem hil
  have hs := find_snoc hil hf
  have hh := find_hit hil hf
  have hsn : (K.ps.take (i + 1)).find? (fun p => decide (p.id = id)) = if decide (K.ps[i].id = id) = true then some K.ps[i] else none := hs
  generalize K.ps[i] = p at *
  have z1 : ¬ 1 = m := by omega
  try simp (disch := omega) only [go_sem, jA, jB, jC, jD, jE, jF, jG, jH, jI, jJ, ↓reduceIte, reduceCtorEq, jO, jM, jN, jK, jL, h11, pns_get, hg, Option.map_some, pns_length, pnv]
  refine ⟨by omega, by omega, ?_⟩
  refine cond_d (fun hq => ?_) (fun hq => ?_)
  ·try simp (disch := omega) only [go_sem, jA, jB, jC, jD, jE, jF, jG, jH, jI, jJ, ↓reduceIte, reduceCtorEq, jO, jM, jN, jK, jL, h1, z1]
   have : prsS K id = (p, true) := by rw [prsS, hh (by simpa using hq)]
   rw [this]
   exact Pub.pure rfl
  ·try simp (disch := omega) only [go_sem, jA, jB, jC, jD, jE, jF, jG, jH, jI, jJ, ↓reduceIte, reduceCtorEq, jO, jM, jN, jK, jL, h11]
   refine up_nextG (m + 1) hil (by omega) ⟨(by first | rfl | (simp (disch := omega) only [go_sem, jA, jB, jC, jD, jE, jF, jG, jH, jI, jJ, ↓reduceIte, reduceCtorEq, jP, jO, jM, jN]; try rfl)), ?_, ?_⟩
   ·rw [hsn, if_neg (by simpa using hq)]
   ·rw [tr_ob (by omega), upd_ne _ _ _ _ (by omega), upd_ne _ _ _ _ (by omega)]; exact h1
 obtain rfl : i = K.ps.length := by omega
 rw [List.take_length] at hf
 try simp (disch := omega) only [go_sem, jA, jB, jC, jD, jE, jF, jG, jH, jI, jJ, ↓reduceIte, reduceCtorEq, jO, jM, jN, jK, jL, h1]
 have : prsS K id = (pn0, false) := by rw [prsS, hf]
 rw [this]
 exact Pub.pure rfl
theorem tmod_bdP (x : Int) : -2147483647 < x.tmod 2147483647 ∧ x.tmod 2147483647 < 2147483647 := by
 have h1 := Int.tmod_lt_of_pos x (b := 2147483647) (by omega)
 have h2 := Int.tmod_lt_of_pos (-x) (b := 2147483647) (by omega)
 rw [Int.neg_tmod] at h2
 omega
theorem tmod_bd0 (x : Int) (h : 0 ≤ x) : 0 ≤ x.tmod 2147483647 ∧ x.tmod 2147483647 < 2147483647 := ⟨Int.tmod_nonneg _ h, (tmod_bdP x).2⟩
theorem ok_ref26_Code (key kind : Int) (d : Dv) : PC prog n_ref26_Code [.int .i64 key, .int .i64 kind, dvv d] (.int .i64 (codeS key kind d)) := by
 refine PC_of_body b_ref26_Code (by simp) ?_
 simp only [c_ref26_Code, dvv, dvX]
 try simp (disch := omega) only [go_sem, jA, jB, jC, jD, jE, jF, jG, jH, jI, jJ, ↓reduceIte, reduceCtorEq, jO, jM, jN, jK, jL]
 have hL : [AV.int .i64 key, .int .i64 kind, .int .i64 d.id, .int .i64 d.site, .int .i64 d.fr, .int .i64 d.to, .int .i64 d.rel] = ints (codeI key kind d) := rfl
 have h7 : (codeI key kind d).length = 7 := rfl
 rw [hL]
 generalize hLL : codeI key kind d = L at *
 refine awp_upF [7, 9, 24, 25, 26, 27, 28, 29, 30, 31, 32, 33, 34, 35, 36] (by kernel_rfl) 7 (fun i e _ => e 24 = .int .i64 i ∧ ∃ c, e 7 = .int .i64 c ∧ 0 ≤ c ∧ c < 2147483647 ∧ codeS key kind d = codeL c (L.drop i)) ?_ ?_
 ·exact ⟨(by first | rfl | (simp (disch := omega) only [go_sem, jA, jB, jC, jD, jE, jF, jG, jH, jI, jJ, ↓reduceIte, reduceCtorEq, jP, jO, jM, jN]; try rfl)), 7, (by first | rfl | (simp (disch := omega) only [go_sem, jA, jB, jC, jD, jE, jF, jG, jH, jI, jJ, ↓reduceIte, reduceCtorEq, jP, jO, jM, jN]; try rfl)), by omega, by omega, by rw [codeS, hLL]; rfl⟩
 rintro i fe ob c hi ⟨h24, x, hx, x0, x1, hc⟩
 simp (maxSteps := 1000000) only [go_sem, jA, jB, jC, jD, jE, jF, jG, jH, jI, jJ, ↓reduceIte, reduceCtorEq, jP] at h24 hx
 try simp (disch := omega) only [go_sem, jA, jB, jC, jD, jE, jF, jG, jH, jI, jJ, ↓reduceIte, reduceCtorEq, jO, jM, jN, jK, jL, h24]
 refine cond_d (fun hlt => ?_) (fun hge => ?_)
 ·have hil : i < L.length := by omega
  have hgi := ints_get L i
  rw [List.getElem?_eq_getElem hil] at hgi
  rw [List.drop_eq_getElem_cons hil, codeL] at hc
  generalize L[i] = n at *
  have b1 := tmod_bdP n
  generalize hy : n.tmod 2147483647 = y at *
  have b2 := tmod_bd0 (y + 2147483647) (by omega)
  generalize hz : (y + 2147483647).tmod 2147483647 = z at *
  have b3 := tmod_bd0 (31 * x + z) (by omega)
  try simp (disch := omega) only [go_sem, jA, jB, jC, jD, jE, jF, jG, jH, jI, jJ, ↓reduceIte, reduceCtorEq, jO, jM, jN, jK, jL, h24, hx, hgi, Option.map_some, ints_length, h7, hy, hz]
  exact ⟨by omega, by omega, up_next (by omega) ⟨(by first | rfl | (simp (disch := omega) only [go_sem, jA, jB, jC, jD, jE, jF, jG, jH, jI, jJ, ↓reduceIte, reduceCtorEq, jP, jO, jM, jN]; try rfl)), _, (by first | rfl | (simp (disch := omega) only [go_sem, jA, jB, jC, jD, jE, jF, jG, jH, jI, jJ, ↓reduceIte, reduceCtorEq, jP, jO, jM, jN]; try rfl)), b3.1, b3.2, hc⟩⟩
 obtain rfl : i = 7 := by omega
 rw [List.drop_of_length_le (by omega), codeL] at hc
 try simp (disch := omega) only [go_sem, jA, jB, jC, jD, jE, jF, jG, jH, jI, jJ, ↓reduceIte, reduceCtorEq, jO, jM, jN, jK, jL, hx]
 rw [hc]
 exact Pub.pure rfl
theorem ok_ref26_right (K : Dk) (d : Dv) (hl : K.ps.length ≤ 9223372036854775807) : PC prog n_ref26_right [dkv K, dvv d] (.bool (rgtS K d)) := by
 refine PC_of_body b_ref26_right (by simp) ?_
 simp only [c_ref26_right, dvv, dvX]
 have hK : (dkv K).flat = true := by simp [dkv, go_sem]
 have hKc : (dkv K).cells.length = 3 := rfl
 have hKp := dkv_pur K
 have hKt : AV.agg ((dkv K).cells.take 3) = dkv K := rfl
 have hKd : AV.agg (((dkv K).cells.drop 0).take 3) = dkv K := rfl
 have no : ∀ {σ : St}, rgtS K d = false → Pub σ (.bool false) (.bool (rgtS K d)) := fun h => Pub.of_eq (by rw [h]) rfl
 try simp (disch := omega) only [go_sem, jA, jB, jC, jD, jE, jF, jG, jH, jI, jJ, ↓reduceIte, reduceCtorEq, jO, jM, jN, jK, jL, hK, hKc]
 refine call_pc (ok_ref26_in _ _ _) (by simp [go_sem]) ?_
 cases h1 : inD d.site 0 5
 ·try simp (disch := omega) only [go_sem, jA, jB, jC, jD, jE, jF, jG, jH, jI, jJ, ↓reduceIte, reduceCtorEq, jO, jM, jN, jK, jL]
  exact no (by simp [rgtS, h1])
 try simp (disch := omega) only [go_sem, jA, jB, jC, jD, jE, jF, jG, jH, jI, jJ, ↓reduceIte, reduceCtorEq, jO, jM, jN, jK, jL]
 refine gd_fd rfl (fun h2 => ?_) (fun h2 => ?_) <;> try simp (disch := omega) only [go_sem, jA, jB, jC, jD, jE, jF, jG, jH, jI, jJ, ↓reduceIte, reduceCtorEq, jO, jM, jN, jK, jL]
 ·exact no (by simp [rgtS, h2])
 refine gd_fd rfl (fun h3 => ?_) (fun h3 => ?_) <;> try simp (disch := omega) only [go_sem, jA, jB, jC, jD, jE, jF, jG, jH, jI, jJ, ↓reduceIte, reduceCtorEq, jO, jM, jN, jK, jL]
 ·exact no (by simp [rgtS, h3])
 refine gd_fd rfl (fun h4 => ?_) (fun h4 => ?_) <;> try simp (disch := omega) only [go_sem, jA, jB, jC, jD, jE, jF, jG, jH, jI, jJ, ↓reduceIte, reduceCtorEq, jO, jM, jN, jK, jL]
 ·exact no (by simp [rgtS, h4])
 refine call_pc (ok_ref26_in _ _ _) (by simp [go_sem]) ?_
 cases h5 : inD d.rel 0 1073741824
 ·try simp (disch := omega) only [go_sem, jA, jB, jC, jD, jE, jF, jG, jH, jI, jJ, ↓reduceIte, reduceCtorEq, jO, jM, jN, jK, jL]
  exact no (by simp [rgtS, h5])
 try simp (disch := omega) only [go_sem, jA, jB, jC, jD, jE, jF, jG, jH, jI, jJ, ↓reduceIte, reduceCtorEq, jO, jM, jN, jK, jL, ints_length]
 refine cond_d (fun h6 => ?_) (fun h6 => ?_) <;> try simp (disch := omega) only [go_sem, jA, jB, jC, jD, jE, jF, jG, jH, jI, jJ, ↓reduceIte, reduceCtorEq, jO, jM, jN, jK, jL, ints_length]
 ·exact no (by simp only [rgtS]; rw [decide_eq_false (show ¬ d.sg.length ≤ 2 by omega)]; simp)
 have hR : rgtS K d = (d.sg.all (fun s => (prsS K s).2) && (decide (d.sg.length < 2) || !decide ((rolesS K d.sg).getD 0 0 = (rolesS K d.sg).getD 1 0))) := by
  simp only [rgtS, h1, h5, decide_eq_false h2, decide_eq_false h3, decide_eq_false h4]
  rw [decide_eq_true (show d.sg.length ≤ 2 by omega)]; simp
 refine awp_upG [4, 5, 7, 8, 9, 46, 47, 48, 49, 50, 51, 52, 53, 54, 55, 56, 57, 58, 59, 60, 61, 62, 63] (by kernel_rfl) d.sg.length (fun i e σ => e 46 = .int .i64 i ∧ 2 ≤ σ.n ∧ σ.ob 0 = some ⟨0, 3, 31, false, true, [dkv K]⟩ ∧ (d.sg.take i).all (fun s => (prsS K s).2) = true ∧ ∃ X, At e 5 X ∧ SlR 1 3 σ (ints (rolesS K (d.sg.take i))) X ∧ ∀ j, ¬ Oth X j → 2 ≤ j) ?_ ?_
 ·exact ⟨(by first | rfl | (simp (disch := omega) only [go_sem, jA, jB, jC, jD, jE, jF, jG, jH, jI, jJ, ↓reduceIte, reduceCtorEq, jP, jO, jM, jN]; try rfl)), Nat.le_refl _, by try simp (disch := omega) only [go_sem, jA, jB, jC, jD, jE, jF, jG, jH, jI, jJ, ↓reduceIte, reduceCtorEq, jO, jM, jN, jK, jL], rfl, .nil, (by simp only [At]; try simp (disch := omega) only [go_sem, jA, jB, jC, jD, jE, jF, jG, jH, jI, jJ, ↓reduceIte, reduceCtorEq, jO, jM, jN, jK, jL]), SlR.nil, fun j hj => absurd (Oth.nil j) hj⟩
 rintro i fe ob m c hi hm ⟨h46, hm2, h0, hall, X, h5X, hX, hXl⟩
 simp (maxSteps := 1000000) only [go_sem, jA, jB, jC, jD, jE, jF, jG, jH, jI, jJ, ↓reduceIte, reduceCtorEq, jP, At] at h46 hm hm2 h0 h5X
 try simp (disch := omega) only [go_sem, jA, jB, jC, jD, jE, jF, jG, jH, jI, jJ, ↓reduceIte, reduceCtorEq, jO, jM, jN, jK, jL, h46, ints_length]
 refine cond_d (fun hlt => ?_) (fun hge => ?_)
 ·have hil : i < d.sg.length := by omega
  have hgi := ints_get d.sg i
  have htk := take_snocA _ _ hil
  have hmem : d.sg[i] ∈ d.sg := List.getElem_mem hil
  rw [List.getElem?_eq_getElem hil] at hgi
  generalize d.sg[i] = s at *
  try simp (disch := omega) only [go_sem, jA, jB, jC, jD, jE, jF, jG, jH, jI, jJ, ↓reduceIte, reduceCtorEq, jO, jM, jN, jK, jL, h46, ints_length, hgi, Option.map_some, h0, hK, hKc, hKt, hKd]
  refine ⟨by omega, by omega, ?_⟩
  refine call_pc (ok_ref26_person K s hl) (by simp [hKp, go_sem]) ?_
  try simp (disch := omega) only [go_sem, jA, jB, jC, jD, jE, jF, jG, jH, jI, jJ, ↓reduceIte, reduceCtorEq, jO, jM, jN, jK, jL, pnv]
  cases hp : (prsS K s).2
  ·try simp (disch := omega) only [go_sem, jA, jB, jC, jD, jE, jF, jG, jH, jI, jJ, ↓reduceIte, reduceCtorEq, jO, jM, jN, jK, jL]
   refine no ?_
   rw [hR, show d.sg.all (fun s => (prsS K s).2) = false by rw [List.all_eq_false]; exact ⟨s, hmem, by simp [hp]⟩]; rfl
  try simp (disch := omega) only [go_sem, jA, jB, jC, jD, jE, jF, jG, jH, jI, jJ, ↓reduceIte, reduceCtorEq, jO, jM, jN, jK, jL, h5X]
  have hrl : (ints (rolesS K (d.sg.take i))).length ≤ 2 := by rw [ints_length, rolesS, List.length_map, List.length_take]; omega
  refine app_slr (b := 8) (hX.move (Nat.le_succ _) fun j hj _ => ?_) (by omega) (by omega) fun Y τ hY kY => ?_
  ·simp only at hj ⊢
   rw [upd_ne _ _ _ _ (by omega), upd_ne _ _ _ _ (by omega)]
  obtain ⟨ob5, m5, c5⟩ := τ
  have q1 : m + 1 ≤ m5 := kY.1
  have oX : ∀ j, j < 2 → Oth X j := fun j hj => Oth.em fun h => by have := hXl j h; omega
  have q2 : ob5 0 = ob 0 := (kY.2.1 0 (by simp only; omega) (oX 0 (by omega))).trans (by simp only; rw [upd_ne _ _ _ _ (by omega), upd_ne _ _ _ _ (by omega)])
  try simp (disch := omega) only [go_sem, jA, jB, jC, jD, jE, jF, jG, jH, jI, jJ, ↓reduceIte, reduceCtorEq, jO, jM, jN, jK, jL, h46]
  refine up_nextG m5 hil (by omega) ⟨(by first | rfl | (simp (disch := omega) only [go_sem, jA, jB, jC, jD, jE, jF, jG, jH, jI, jJ, ↓reduceIte, reduceCtorEq, jP, jO, jM, jN]; try rfl)), by simp only [St.trunc]; omega, ?_, ?_, Y, (by simp only [At]; try simp (disch := omega) only [go_sem, jA, jB, jC, jD, jE, jF, jG, jH, jI, jJ, ↓reduceIte, reduceCtorEq, jO, jM, jN, jK, jL]), ?_, fun j hj => Nat.le_of_not_lt fun hh => hj (kY.2.2 j (by simp only; omega) (oX j hh))⟩
  ·rw [tr_ob (by omega), q2]; exact h0
  ·rw [htk, List.all_append, hall]; simp [hp]
  ·rw [htk, show ints (rolesS K (d.sg.take i ++ [s])) = ints (rolesS K (d.sg.take i)) ++ [.int .i64 (prsS K s).1.role] by simp [rolesS, ints]]
   exact hY.tr
 obtain rfl : i = d.sg.length := by omega
 rw [List.take_length] at hall hX
 rw [hall, Bool.true_and] at hR
 have hrl : (rolesS K d.sg).length = d.sg.length := by rw [rolesS, List.length_map]
 generalize rolesS K d.sg = RL at *
 try simp (disch := omega) only [go_sem, jA, jB, jC, jD, jE, jF, jG, jH, jI, jJ, ↓reduceIte, reduceCtorEq, jO, jM, jN, jK, jL, h5X]
 have hno : ∀ l : List Int, ints l = [] → l = [] := fun l h => by simpa [ints] using h
 rcases hX with ⟨rfl, hn⟩ | ⟨id, g, rfl, hi2, ho⟩
 ·obtain rfl := hno _ hn
  try simp (disch := omega) only [go_sem, jA, jB, jC, jD, jE, jF, jG, jH, jI, jJ, ↓reduceIte, reduceCtorEq, jO, jM, jN, jK, jL]
  rw [hR]
  exact Pub.of_eq (by rw [← hrl]; rfl) rfl
 ·simp only at ho
  try simp (disch := omega) only [go_sem, jA, jB, jC, jD, jE, jF, jG, jH, jI, jJ, ↓reduceIte, reduceCtorEq, jO, jM, jN, jK, jL, ints_length]
  refine gd_fd rfl (fun hlt => ?_) (fun hge => ?_)
  ·try simp (disch := omega) only [go_sem, jA, jB, jC, jD, jE, jF, jG, jH, jI, jJ, ↓reduceIte, reduceCtorEq, jO, jM, jN, jK, jL]
   rw [hR]
   exact Pub.of_eq (by rw [decide_eq_true (show d.sg.length < 2 by omega)]; rfl) rfl
  ·match RL, hrl with
   | [a, b], hrl =>
    simp only [ints, List.map_cons, List.map_nil] at ho ⊢
    try simp (disch := omega) only [go_sem, jA, jB, jC, jD, jE, jF, jG, jH, jI, jJ, ↓reduceIte, reduceCtorEq, jO, jM, jN, jK, jL, ho, ints]
    rw [hR]
    exact Pub.of_eq (by rw [← hrl]; rfl) rfl
   | [], hrl => simp at hge
   | [_], hrl => simp at hge
   | _ :: _ :: _ :: _, hrl => simp at hrl; omega
theorem range_all_snoc {q : Nat → Bool} {i : Nat} (h : (List.range i).all q = true) (hq : q i = true) : (List.range (i + 1)).all q = true := by
 rw [List.range_succ, List.all_append, h]; simp [hq]
theorem range_all_no {q : Nat → Bool} {i n : Nat} (hi : i < n) (hq : q i = false) : (List.range n).all q = false := by
 rw [List.all_eq_false]; exact ⟨i, List.mem_range.2 hi, by simp [hq]⟩
theorem ok_ref26_Check (K : Dk) (hl : K.ps.length ≤ 9223372036854775807) (hl2 : K.ds.length ≤ 9223372036854775807) : PC prog n_ref26_Check [dkv K] (.int .i64 (chkDS K)) := by
 refine PC_of_body b_ref26_Check (by simp) ?_
 simp only [c_ref26_Check]
 have hK : (dkv K).flat = true := by simp [dkv, go_sem]
 have hKc : (dkv K).cells.length = 3 := rfl
 have hKp := dkv_pur K
 have hKt : AV.agg ((dkv K).cells.take 3) = dkv K := rfl
 have hKd : AV.agg (((dkv K).cells.drop 0).take 3) = dkv K := rfl
 have g0 : (dkv K).cells.getD 0 .junk = .list 3 (pns K.ps) := rfl
 have g1 : (dkv K).cells.getD 1 .junk = .int .i64 K.nx := rfl
 have g2 : (dkv K).cells.getD 2 .junk = .list 7 (dvs K.ds) := rfl
 have no : ∀ {σ : St}, chkD K = false → Pub σ (.int .i64 50) (.int .i64 (chkDS K)) := fun h => Pub.of_eq (by rw [chkDS, h]; rfl) rfl
 try simp (disch := omega) only [go_sem, jA, jB, jC, jD, jE, jF, jG, jH, jI, jJ, ↓reduceIte, reduceCtorEq, jO, jM, jN, jK, jL, hK, hKc, g0, g1, g2, pns_length, dvs_length]
 refine gd_fd rfl (fun h1 => ?_) (fun h1 => ?_) <;> try simp (disch := omega) only [go_sem, jA, jB, jC, jD, jE, jF, jG, jH, jI, jJ, ↓reduceIte, reduceCtorEq, jO, jM, jN, jK, jL, g1]
 ·exact no (by simp only [chkD]; rw [decide_eq_false (show ¬ K.ps.length ≤ 12 by omega)]; simp)
 refine call_pc (ok_ref26_in _ _ _) (by simp [go_sem]) ?_
 cases h2 : inD K.nx 1 1073741824
 ·try simp (disch := omega) only [go_sem, jA, jB, jC, jD, jE, jF, jG, jH, jI, jJ, ↓reduceIte, reduceCtorEq, jO, jM, jN, jK, jL]
  exact no (by simp [chkD, h2])
 try simp (disch := omega) only [go_sem, jA, jB, jC, jD, jE, jF, jG, jH, jI, jJ, ↓reduceIte, reduceCtorEq, jO, jM, jN, jK, jL, g2, dvs_length]
 refine cond_d (fun h3 => ?_) (fun h3 => ?_) <;> try simp (disch := omega) only [go_sem, jA, jB, jC, jD, jE, jF, jG, jH, jI, jJ, ↓reduceIte, reduceCtorEq, jO, jM, jN, jK, jL, g0, pns_length]
 ·exact no (by simp only [chkD]; rw [decide_eq_false (show ¬ K.ds.length ≤ 64 by omega)]; simp)
 have hC : chkD K = ((List.range K.ps.length).all (okP K) && (List.range K.ds.length).all (okD K)) := by
  simp only [chkD, h2]
  rw [decide_eq_true (show K.ps.length ≤ 12 by omega), decide_eq_true (show K.ds.length ≤ 64 by omega)]; simp
 refine awp_upG [2, 3, 4, 26, 27, 28, 29, 30, 31, 32, 33, 34, 35, 36, 37, 38, 39, 40, 41, 42, 43, 44, 45, 46, 47, 48, 49, 50, 51, 52, 53, 54, 55, 56, 57, 58, 59, 60, 61, 62, 63] (by kernel_rfl) K.ps.length (fun i e σ => e 26 = .int .i64 i ∧ 1 ≤ σ.n ∧ σ.ob 0 = some ⟨0, 3, 31, false, true, [dkv K]⟩ ∧ (List.range i).all (okP K) = true) ?_ ?_
 ·exact ⟨(by first | rfl | (simp (disch := omega) only [go_sem, jA, jB, jC, jD, jE, jF, jG, jH, jI, jJ, ↓reduceIte, reduceCtorEq, jP, jO, jM, jN]; try rfl)), Nat.le_refl _, by try simp (disch := omega) only [go_sem, jA, jB, jC, jD, jE, jF, jG, jH, jI, jJ, ↓reduceIte, reduceCtorEq, jO, jM, jN, jK, jL], rfl⟩
 rintro i fe ob m c hi hm ⟨h26, hm1, h0, hall⟩
 simp (maxSteps := 1000000) only [go_sem, jA, jB, jC, jD, jE, jF, jG, jH, jI, jJ, ↓reduceIte, reduceCtorEq, jP] at h26 hm hm1 h0
 try simp (disch := omega) only [go_sem, jA, jB, jC, jD, jE, jF, jG, jH, jI, jJ, ↓reduceIte, reduceCtorEq, jO, jM, jN, jK, jL, h26, pns_length]
 refine cond_d (fun hlt => ?_) (fun hge => ?_)
 ·have hil : i < K.ps.length := by omega
  have hg := gP_get hil
  have hgq : 0 < i → K.ps[i - 1]? = some (gP K.ps (i - 1)) := fun h => gP_get (by omega)
  have hno : okP K i = false → ∀ {σ : St}, Pub σ (.int .i64 50) (.int .i64 (chkDS K)) := fun h σ => no (by rw [hC, range_all_no hil h]; rfl)
  have hok : okP K i = (inD (gP K.ps i).id 1 1073741824 && !(decide (0 < i) && decide ((gP K.ps i).id ≤ (gP K.ps (i - 1)).id)) && inD (gP K.ps i).role 1 9 && inD (gP K.ps i).key 1 1073741824) := rfl
  have z1 : ¬ 0 = m := by omega
  try simp (disch := omega) only [go_sem, jA, jB, jC, jD, jE, jF, jG, jH, jI, jJ, ↓reduceIte, reduceCtorEq, jO, jM, jN, jK, jL, h26, pns_get, hg, Option.map_some, pns_length, pnv]
  refine ⟨by omega, by omega, ?_⟩
  refine call_pc (ok_ref26_in _ _ _) (by simp [go_sem]) ?_
  cases k1 : inD (gP K.ps i).id 1 1073741824
  ·try simp (disch := omega) only [go_sem, jA, jB, jC, jD, jE, jF, jG, jH, jI, jJ, ↓reduceIte, reduceCtorEq, jO, jM, jN, jK, jL]
   exact hno (by rw [hok, k1]; rfl)
  try simp (disch := omega) only [go_sem, jA, jB, jC, jD, jE, jF, jG, jH, jI, jJ, ↓reduceIte, reduceCtorEq, jO, jM, jN, jK, jL, h26]
  refine gd_td rfl (fun hp => ?_) (fun hp => ?_)
  ·have hgp := hgq (by omega)
   have ei : ((i : Int) - 1).toNat = i - 1 := by omega
   try simp (disch := omega) only [go_sem, jA, jB, jC, jD, jE, jF, jG, jH, jI, jJ, ↓reduceIte, reduceCtorEq, jO, jM, jN, jK, jL, h26, h0, g0, z1, hK, hKc, ei, pns_get, hgp, Option.map_some, pns_length, pnv]
   refine ⟨by omega, by omega, ?_⟩
   refine gd_fd rfl (fun hq => ?_) (fun hq => ?_) <;> try simp (disch := omega) only [go_sem, jA, jB, jC, jD, jE, jF, jG, jH, jI, jJ, ↓reduceIte, reduceCtorEq, jO, jM, jN, jK, jL, z1]
   ·exact hno (by rw [hok]; simp [hq]; omega)
   refine call_pc (ok_ref26_in _ _ _) (by simp [go_sem]) ?_
   cases k3 : inD (gP K.ps i).role 1 9
   ·try simp (disch := omega) only [go_sem, jA, jB, jC, jD, jE, jF, jG, jH, jI, jJ, ↓reduceIte, reduceCtorEq, jO, jM, jN, jK, jL]
    exact hno (by rw [hok, k3]; simp)
   try simp (disch := omega) only [go_sem, jA, jB, jC, jD, jE, jF, jG, jH, jI, jJ, ↓reduceIte, reduceCtorEq, jO, jM, jN, jK, jL, z1]
   refine call_pc (ok_ref26_in _ _ _) (by simp [go_sem]) ?_
   cases k4 : inD (gP K.ps i).key 1 1073741824
   ·try simp (disch := omega) only [go_sem, jA, jB, jC, jD, jE, jF, jG, jH, jI, jJ, ↓reduceIte, reduceCtorEq, jO, jM, jN, jK, jL]
    exact hno (by rw [hok, k4]; simp)
   try simp (disch := omega) only [go_sem, jA, jB, jC, jD, jE, jF, jG, jH, jI, jJ, ↓reduceIte, reduceCtorEq, jO, jM, jN, jK, jL, h26]
   refine up_nextG (m + 1) hil (by omega) ⟨(by first | rfl | (simp (disch := omega) only [go_sem, jA, jB, jC, jD, jE, jF, jG, jH, jI, jJ, ↓reduceIte, reduceCtorEq, jP, jO, jM, jN]; try rfl)), by simp only [St.trunc]; omega, ?_, range_all_snoc hall (by rw [hok, k1, k3, k4]; simp [hq])⟩
   rw [tr_ob (by omega), upd_ne _ _ _ _ (by omega), upd_ne _ _ _ _ (by omega)]; exact h0
  ·try simp (disch := omega) only [go_sem, jA, jB, jC, jD, jE, jF, jG, jH, jI, jJ, ↓reduceIte, reduceCtorEq, jO, jM, jN, jK, jL, h26, z1]
   refine call_pc (ok_ref26_in _ _ _) (by simp [go_sem]) ?_
   cases k3 : inD (gP K.ps i).role 1 9
   ·try simp (disch := omega) only [go_sem, jA, jB, jC, jD, jE, jF, jG, jH, jI, jJ, ↓reduceIte, reduceCtorEq, jO, jM, jN, jK, jL]
    exact hno (by rw [hok, k3]; simp)
   try simp (disch := omega) only [go_sem, jA, jB, jC, jD, jE, jF, jG, jH, jI, jJ, ↓reduceIte, reduceCtorEq, jO, jM, jN, jK, jL, z1]
   refine call_pc (ok_ref26_in _ _ _) (by simp [go_sem]) ?_
   cases k4 : inD (gP K.ps i).key 1 1073741824
   ·try simp (disch := omega) only [go_sem, jA, jB, jC, jD, jE, jF, jG, jH, jI, jJ, ↓reduceIte, reduceCtorEq, jO, jM, jN, jK, jL]
    exact hno (by rw [hok, k4]; simp)
   try simp (disch := omega) only [go_sem, jA, jB, jC, jD, jE, jF, jG, jH, jI, jJ, ↓reduceIte, reduceCtorEq, jO, jM, jN, jK, jL, h26]
   refine up_nextG (m + 1) hil (by omega) ⟨(by first | rfl | (simp (disch := omega) only [go_sem, jA, jB, jC, jD, jE, jF, jG, jH, jI, jJ, ↓reduceIte, reduceCtorEq, jP, jO, jM, jN]; try rfl)), by simp only [St.trunc]; omega, ?_, range_all_snoc hall (by rw [hok, k1, k3, k4]; simp; omega)⟩
   rw [tr_ob (by omega), upd_ne _ _ _ _ (by omega), upd_ne _ _ _ _ (by omega)]; exact h0
 obtain rfl : i = K.ps.length := by omega
 rw [hall, Bool.true_and] at hC
 clear h26 hge
 try simp (disch := omega) only [go_sem, jA, jB, jC, jD, jE, jF, jG, jH, jI, jJ, ↓reduceIte, reduceCtorEq, jO, jM, jN, jK, jL, h0, g2, dvs_length]
 refine awp_upG [2, 5, 6, 67, 68, 69, 70, 71, 72, 73, 74, 75, 76, 77, 78, 79, 80, 81, 82, 83, 84, 85, 86, 87, 88, 89, 90, 91, 92, 93, 94, 95, 96, 97, 98, 99, 100, 101] (by kernel_rfl) K.ds.length (fun i e σ => e 67 = .int .i64 i ∧ 1 ≤ σ.n ∧ σ.ob 0 = some ⟨0, 3, 31, false, true, [dkv K]⟩ ∧ (List.range i).all (okD K) = true) ?_ ?_
 ·exact ⟨(by first | rfl | (simp (disch := omega) only [go_sem, jA, jB, jC, jD, jE, jF, jG, jH, jI, jJ, ↓reduceIte, reduceCtorEq, jP, jO, jM, jN]; try rfl)), hm1, h0, rfl⟩
 clear h0 hm1 hm
 rintro i fe2 ob2 m2 c2 hi2 hm2 ⟨h67, hm3, v0, hall2⟩
 simp (maxSteps := 1000000) only [go_sem, jA, jB, jC, jD, jE, jF, jG, jH, jI, jJ, ↓reduceIte, reduceCtorEq, jP] at h67 hm2 hm3 v0
 try simp (disch := omega) only [go_sem, jA, jB, jC, jD, jE, jF, jG, jH, jI, jJ, ↓reduceIte, reduceCtorEq, jO, jM, jN, jK, jL, h67, dvs_length]
 refine cond_d (fun hlt => ?_) (fun hge => ?_)
 ·have hil : i < K.ds.length := by omega
  have hg := gD_get hil
  have hgq : 0 < i → K.ds[i - 1]? = some (gD K.ds (i - 1)) := fun h => gD_get (by omega)
  have hno : okD K i = false → ∀ {σ : St}, Pub σ (.int .i64 50) (.int .i64 (chkDS K)) := fun h σ => no (by rw [hC, range_all_no hil h])
  have hok : okD K i = (inD (gD K.ds i).id 1 (K.nx - 1) && !(decide (0 < i) && decide ((gD K.ds i).id ≤ (gD K.ds (i - 1)).id)) && rgtS K (gD K.ds i)) := rfl
  have z1 : ¬ 0 = m2 := by omega
  have hnx : 1 ≤ K.nx ∧ K.nx ≤ 1073741824 := by simpa [inD] using h2
  try simp (disch := omega) only [go_sem, jA, jB, jC, jD, jE, jF, jG, jH, jI, jJ, ↓reduceIte, reduceCtorEq, jO, jM, jN, jK, jL, h67, dvs_get, hg, Option.map_some, dvs_length, dv0_fold, dvv_put, dvv_flat, dvv_len, dvv_tk, dvv_dt, dvv_ct, dvv_ca, dvv_one, dvv_0, v0, z1, hK, hKc, g1]
  refine ⟨by omega, by omega, ?_⟩
  refine call_pc (ok_ref26_in _ _ _) (by simp [go_sem]) ?_
  cases k1 : inD (gD K.ds i).id 1 (K.nx - 1)
  ·try simp (disch := omega) only [go_sem, jA, jB, jC, jD, jE, jF, jG, jH, jI, jJ, ↓reduceIte, reduceCtorEq, jO, jM, jN, jK, jL]
   exact hno (by rw [hok, k1]; rfl)
  try simp (disch := omega) only [go_sem, jA, jB, jC, jD, jE, jF, jG, jH, jI, jJ, ↓reduceIte, reduceCtorEq, jO, jM, jN, jK, jL, h67]
  refine gd_td rfl (fun hp => ?_) (fun hp => ?_)
  ·have hgp := hgq (by omega)
   have ei : ((i : Int) - 1).toNat = i - 1 := by omega
   try simp (disch := omega) only [go_sem, jA, jB, jC, jD, jE, jF, jG, jH, jI, jJ, ↓reduceIte, reduceCtorEq, jO, jM, jN, jK, jL, h67, v0, g2, z1, hK, hKc, ei, dvs_get, hgp, Option.map_some, dvs_length, dv0_fold, dvv_put, dvv_flat, dvv_len, dvv_tk, dvv_dt, dvv_ct, dvv_ca, dvv_one, dvv_0]
   refine ⟨by omega, by omega, ?_⟩
   refine gd_fd rfl (fun hq => ?_) (fun hq => ?_) <;> try simp (disch := omega) only [go_sem, jA, jB, jC, jD, jE, jF, jG, jH, jI, jJ, ↓reduceIte, reduceCtorEq, jO, jM, jN, jK, jL, z1, v0, hK, hKc, hKt, hKd, dv0_fold, dvv_put, dvv_flat, dvv_len, dvv_tk, dvv_dt, dvv_ct, dvv_ca, dvv_one, dvv_0]
   ·exact hno (by rw [hok]; simp [hq]; omega)
   refine call_pc (ok_ref26_right K (gD K.ds i) hl) (by simp [hKp, dvv_pur]) ?_
   cases k3 : rgtS K (gD K.ds i)
   ·try simp (disch := omega) only [go_sem, jA, jB, jC, jD, jE, jF, jG, jH, jI, jJ, ↓reduceIte, reduceCtorEq, jO, jM, jN, jK, jL]
    exact hno (by rw [hok, k3]; simp)
   try simp (disch := omega) only [go_sem, jA, jB, jC, jD, jE, jF, jG, jH, jI, jJ, ↓reduceIte, reduceCtorEq, jO, jM, jN, jK, jL, h67]
   refine up_nextG (m2 + 1) hil (by omega) ⟨(by first | rfl | (simp (disch := omega) only [go_sem, jA, jB, jC, jD, jE, jF, jG, jH, jI, jJ, ↓reduceIte, reduceCtorEq, jP, jO, jM, jN]; try rfl)), by simp only [St.trunc]; omega, ?_, range_all_snoc hall2 (by rw [hok, k1, k3]; simp [hq])⟩
   rw [tr_ob (by omega), upd_ne _ _ _ _ (by omega), upd_ne _ _ _ _ (by omega)]; exact v0
  ·try simp (disch := omega) only [go_sem, jA, jB, jC, jD, jE, jF, jG, jH, jI, jJ, ↓reduceIte, reduceCtorEq, jO, jM, jN, jK, jL, h67, z1, v0, hK, hKc, hKt, hKd, dv0_fold, dvv_put, dvv_flat, dvv_len, dvv_tk, dvv_dt, dvv_ct, dvv_ca, dvv_one, dvv_0]
   refine call_pc (ok_ref26_right K (gD K.ds i) hl) (by simp [hKp, dvv_pur]) ?_
   cases k3 : rgtS K (gD K.ds i)
   ·try simp (disch := omega) only [go_sem, jA, jB, jC, jD, jE, jF, jG, jH, jI, jJ, ↓reduceIte, reduceCtorEq, jO, jM, jN, jK, jL]
    exact hno (by rw [hok, k3]; simp)
   try simp (disch := omega) only [go_sem, jA, jB, jC, jD, jE, jF, jG, jH, jI, jJ, ↓reduceIte, reduceCtorEq, jO, jM, jN, jK, jL, h67]
   refine up_nextG (m2 + 1) hil (by omega) ⟨(by first | rfl | (simp (disch := omega) only [go_sem, jA, jB, jC, jD, jE, jF, jG, jH, jI, jJ, ↓reduceIte, reduceCtorEq, jP, jO, jM, jN]; try rfl)), by simp only [St.trunc]; omega, ?_, range_all_snoc hall2 (by rw [hok, k1, k3]; simp; omega)⟩
   rw [tr_ob (by omega), upd_ne _ _ _ _ (by omega), upd_ne _ _ _ _ (by omega)]; exact v0
 obtain rfl : i = K.ds.length := by omega
 try simp (disch := omega) only [go_sem, jA, jB, jC, jD, jE, jF, jG, jH, jI, jJ, ↓reduceIte, reduceCtorEq, jO, jM, jN, jK, jL]
 exact Pub.of_eq (by rw [chkDS, hC, hall2]; rfl) rfl
theorem ok_ref26_ask (K : Dk) (id who code now kind : Int) (hl : K.ps.length ≤ 9223372036854775807) (hl2 : K.ds.length ≤ 9223372036854775807) :
  PC prog n_ref26_ask [dkv K, .int .i64 id, .int .i64 who, .int .i64 code, .int .i64 now, .int .i64 kind] (.tuple [.int .i64 (askS K id who code now kind).1, pnv (askS K id who code now kind).2.1, .int .i64 (askS K id who code now kind).2.2]) := by
 refine PC_of_body b_ref26_ask (by simp) ?_
 simp only [c_ref26_ask]
 have hK : (dkv K).flat = true := by simp [dkv, go_sem]
 have hKc : (dkv K).cells.length = 3 := rfl
 have hKp := dkv_pur K
 have hKt : AV.agg ((dkv K).cells.take 3) = dkv K := rfl
 have hKd : AV.agg (((dkv K).cells.drop 0).take 3) = dkv K := rfl
 have g2 : (dkv K).cells.getD 2 .junk = .list 7 (dvs K.ds) := rfl
 have fin : ∀ {σ : St} (i e : Int) (p : Pn), askS K id who code now kind = (i, p, e) → Pub σ (.tuple [.int .i64 i, pnv p, .int .i64 e]) (.tuple [.int .i64 (askS K id who code now kind).1, pnv (askS K id who code now kind).2.1, .int .i64 (askS K id who code now kind).2.2]) := fun i e p h => by
  rw [h]; exact Pub.pure rfl
 try simp (disch := omega) only [go_sem, jA, jB, jC, jD, jE, jF, jG, jH, jI, jJ, ↓reduceIte, reduceCtorEq, jO, jM, jN, jK, jL, hK, hKc, hKt, hKd]
 refine call_pc (ok_ref26_Check K hl hl2) (by simp [hKp]) ?_
 rw [chkDS]
 cases hc : chkD K
 ·try simp (disch := omega) only [go_sem, jA, jB, jC, jD, jE, jF, jG, jH, jI, jJ, ↓reduceIte, reduceCtorEq, jO, jM, jN, jK, jL]
  exact fin 0 50 pn0 (by rw [askS, if_pos hc])
 try simp (disch := omega) only [go_sem, jA, jB, jC, jD, jE, jF, jG, jH, jI, jJ, ↓reduceIte, reduceCtorEq, jO, jM, jN, jK, jL, g2, dvs_length]
 have hA : askS K id who code now kind = askG K id who code now kind K.ds 0 := by rw [askS, if_neg (by simp [hc])]
 refine awp_upG [12, 14, 15, 16, 17, 18, 26, 27, 28, 29, 30, 31, 32, 33, 34, 35, 36, 37, 38, 39, 40, 41, 42, 43, 44, 45, 46, 47, 48, 49, 50, 51, 52, 53, 54, 55, 56, 57, 58, 59, 60, 61, 62, 63] (by kernel_rfl) K.ds.length (fun i e σ => e 26 = .int .i64 i ∧ 2 ≤ σ.n ∧ σ.ob 0 = some ⟨0, 3, 31, false, true, [dkv K]⟩ ∧ σ.ob 1 = some ⟨1, 3, 62, false, true, [.agg [.int .i64 0, .int .i64 0, .int .i64 0]]⟩ ∧
  askS K id who code now kind = askG K id who code now kind (K.ds.drop i) i) ?_ ?_
 ·exact ⟨(by first | rfl | (simp (disch := omega) only [go_sem, jA, jB, jC, jD, jE, jF, jG, jH, jI, jJ, ↓reduceIte, reduceCtorEq, jP, jO, jM, jN]; try rfl)), Nat.le_refl _, by try simp (disch := omega) only [go_sem, jA, jB, jC, jD, jE, jF, jG, jH, jI, jJ, ↓reduceIte, reduceCtorEq, jO, jM, jN, jK, jL], by try simp (disch := omega) only [go_sem, jA, jB, jC, jD, jE, jF, jG, jH, jI, jJ, ↓reduceIte, reduceCtorEq, jO, jM, jN, jK, jL], hA⟩
 rintro i fe ob m c hi hm ⟨h26, hm1, v0, v1, hS⟩
 simp (maxSteps := 1000000) only [go_sem, jA, jB, jC, jD, jE, jF, jG, jH, jI, jJ, ↓reduceIte, reduceCtorEq, jP] at h26 hm hm1 v0 v1
 try simp (disch := omega) only [go_sem, jA, jB, jC, jD, jE, jF, jG, jH, jI, jJ, ↓reduceIte, reduceCtorEq, jO, jM, jN, jK, jL, h26, dvs_length]
 refine cond_d (fun hlt => ?_) (fun hge => ?_)
 ·have hil : i < K.ds.length := by omega
  have hg : K.ds[i]? = some K.ds[i] := List.getElem?_eq_getElem hil
  rw [List.drop_eq_getElem_cons hil, askG] at hS
  generalize K.ds[i] = d at *
  have z0 : ¬ 0 = m := by omega
  have z1 : ¬ 1 = m := by omega
  try simp (disch := omega) only [go_sem, jA, jB, jC, jD, jE, jF, jG, jH, jI, jJ, ↓reduceIte, reduceCtorEq, jO, jM, jN, jK, jL, h26, dvs_get, hg, Option.map_some, dvs_length, dv0_fold, dvv_put, dvv_flat, dvv_len, dvv_tk, dvv_dt, dvv_ct, dvv_ca, dvv_one, dvv_0]
  refine ⟨by omega, by omega, ?_⟩
  refine cond_n (fun k1 => ?_) (fun k1 => ?_)
  ·try simp (disch := omega) only [go_sem, jA, jB, jC, jD, jE, jF, jG, jH, jI, jJ, ↓reduceIte, reduceCtorEq, jO, jM, jN, jK, jL, h26]
   rw [if_pos k1] at hS
   refine up_nextG (m + 1) hil (by omega) ⟨(by first | rfl | (simp (disch := omega) only [go_sem, jA, jB, jC, jD, jE, jF, jG, jH, jI, jJ, ↓reduceIte, reduceCtorEq, jP, jO, jM, jN]; try rfl)), by simp only [St.trunc]; omega, ?_, ?_, hS⟩
   ·rw [tr_ob (by omega), upd_ne _ _ _ _ (by omega), upd_ne _ _ _ _ (by omega)]; exact v0
   ·rw [tr_ob (by omega), upd_ne _ _ _ _ (by omega), upd_ne _ _ _ _ (by omega)]; exact v1
  rw [if_neg (by simpa using k1)] at hS
  try simp (disch := omega) only [go_sem, jA, jB, jC, jD, jE, jF, jG, jH, jI, jJ, ↓reduceIte, reduceCtorEq, jO, jM, jN, jK, jL, dvv_6]
  have bad : ∀ e, askS K id who code now kind = (0, pn0, e) → True := fun _ _ => trivial
  cases k2 : d.wd
  ·try simp (disch := omega) only [go_sem, jA, jB, jC, jD, jE, jF, jG, jH, jI, jJ, ↓reduceIte, reduceCtorEq, jO, jM, jN, jK, jL, dvv_3, dvv_flat, dvv_len, dvv_ct, dvv_ca]
   refine cond_d (fun k3 => ?_) (fun k3 => ?_)
   ·try simp (disch := omega) only [go_sem, jA, jB, jC, jD, jE, jF, jG, jH, jI, jJ, ↓reduceIte, reduceCtorEq, jO, jM, jN, jK, jL, v1, z1]
    rw [if_pos (.inr k3)] at hS
    exact fin 0 44 pn0 hS
   rw [if_neg (by simp [k2]; omega)] at hS
   try simp (disch := omega) only [go_sem, jA, jB, jC, jD, jE, jF, jG, jH, jI, jJ, ↓reduceIte, reduceCtorEq, jO, jM, jN, jK, jL, v0, v1, z0, z1, hK, hKc, hKt, hKd]
   refine call_pc (ok_ref26_person K who hl) (by simp [hKp, go_sem]) ?_
   try simp (disch := omega) only [go_sem, jA, jB, jC, jD, jE, jF, jG, jH, jI, jJ, ↓reduceIte, reduceCtorEq, jO, jM, jN, jK, jL, pnv]
   cases k4 : (prsS K who).2
   ·try simp (disch := omega) only [go_sem, jA, jB, jC, jD, jE, jF, jG, jH, jI, jJ, ↓reduceIte, reduceCtorEq, jO, jM, jN, jK, jL, v1, z1]
    rw [if_pos k4] at hS
    exact fin 0 11 pn0 hS
   rw [if_neg (by simp [k4])] at hS
   have z2 : ¬ m = m + 1 := by omega
   try simp (disch := omega) only [go_sem, jA, jB, jC, jD, jE, jF, jG, jH, jI, jJ, ↓reduceIte, reduceCtorEq, jO, jM, jN, jK, jL, z2, dvv_flat, dvv_len, dvv_ct, dvv_ca, dvv_tk, dvv_dt]
   refine call_pc (ok_ref26_Code (prsS K who).1.key kind d) (by simp [dvv_pur, go_sem]) ?_
   try simp (disch := omega) only [go_sem, jA, jB, jC, jD, jE, jF, jG, jH, jI, jJ, ↓reduceIte, reduceCtorEq, jO, jM, jN, jK, jL]
   refine cond_n (fun k5 => ?_) (fun k5 => ?_)
   ·try simp (disch := omega) only [go_sem, jA, jB, jC, jD, jE, jF, jG, jH, jI, jJ, ↓reduceIte, reduceCtorEq, jO, jM, jN, jK, jL, v1, z1]
    rw [if_pos k5] at hS
    have z3 : ¬ 1 = m + 1 := by omega
    try simp (disch := omega) only [go_sem, jA, jB, jC, jD, jE, jF, jG, jH, jI, jJ, ↓reduceIte, reduceCtorEq, jO, jM, jN, jK, jL, v1, z1, z3]
    exact fin 0 43 pn0 hS
   rw [if_neg (by simpa using k5)] at hS
   have z3 : ¬ 1 = m + 1 := by omega
   try simp (disch := omega) only [go_sem, jA, jB, jC, jD, jE, jF, jG, jH, jI, jJ, ↓reduceIte, reduceCtorEq, jO, jM, jN, jK, jL, v1, z1, z2, z3]
   exact fin i 0 (prsS K who).1 hS
  ·try simp (disch := omega) only [go_sem, jA, jB, jC, jD, jE, jF, jG, jH, jI, jJ, ↓reduceIte, reduceCtorEq, jO, jM, jN, jK, jL, v1, z1]
   rw [if_pos (.inl k2)] at hS
   exact fin 0 44 pn0 hS
 obtain rfl : i = K.ds.length := by omega
 rw [List.drop_length, askG] at hS
 try simp (disch := omega) only [go_sem, jA, jB, jC, jD, jE, jF, jG, jH, jI, jJ, ↓reduceIte, reduceCtorEq, jO, jM, jN, jK, jL, v1]
 exact fin 0 9 pn0 hS
abbrev tyPn : TypeId := 62
abbrev tyDv : TypeId := 43
abbrev tySg : TypeId := 3
def dvXs (l : List Dv) (Es : List AV) : List AV := List.zipWith dvX l Es
theorem dvXs_snoc {l : List Dv} {Cs : List AV} {w : Dv} {E : AV} (h : l.length = Cs.length) : dvXs (l ++ [w]) (Cs ++ [E]) = dvXs l Cs ++ [dvX w E] := by
 simp only [dvXs]; rw [List.zipWith_append h]; rfl
def inS (l : List Dv) : List (List AV) := l.map fun d => ints d.sg
def CpD (σ : St) (K : Dk) (r : AV) (τ : St) : Prop :=
 ∃ XP XA Fs l1, r = .agg [XP, .int .i64 K.nx, XA] ∧ σ.n ≤ l1 ∧ l1 ≤ τ.n ∧ SlR 3 tyPn τ (pns K.ps) XP ∧ (∀ i, ¬ Oth XP i → σ.n ≤ i ∧ i < l1) ∧
  SlR 7 tyDv τ (dvXs K.ds Fs) XA ∧ IC 1 tySg τ Fs (inS K.ds) ∧ Grp τ l1 XA Fs ∧ ∀ i, i < σ.n → τ.ob i = σ.ob i
theorem hc_ref26_Copy (σ : St) (K : Dk) (h1 : K.ps.length ≤ 1000000) (h4 : K.ds.length ≤ 1000000) (h5 : ∀ d ∈ K.ds, d.sg.length ≤ 1000000) : HC prog n_ref26_Copy [dkv K] σ (CpD σ K) := by
 obtain ⟨ob0, n0, c0⟩ := σ
 refine HC_of_body b_ref26_Copy (by simp) ?_
 simp only [c_ref26_Copy, dkv]
 try simp (disch := omega) only [go_sem, jA, jB, jC, jD, jE, jF, jG, jH, jI, jJ, ↓reduceIte, reduceCtorEq, jO, jM, jN, jK, jL]
 refine app_slrs (M := pns K.ps) (b := 24) SlR.nil (by simp [pns_length]; omega) (by simp [pns_length]; omega) fun XP τ hP kP => ?_
 obtain ⟨ob1, n1, c1⟩ := τ
 obtain ⟨k1, k2, k3⟩ := kP
 simp only [List.nil_append] at hP
 have k1' : n0 + 1 + 1 ≤ n1 := k1
 have u0 := k2 n0 (by simp only; omega) (Oth.nil _)
 have u1 := k2 (n0 + 1) (by simp only; omega) (Oth.nil _)
 try simp (disch := omega) only [go_sem, jA, jB, jC, jD, jE, jF, jG, jH, jI, jJ, ↓reduceIte, reduceCtorEq, jO, jM, jN, jK, jL] at u0
 try simp (disch := omega) only [go_sem, jA, jB, jC, jD, jE, jF, jG, jH, jI, jJ, ↓reduceIte, reduceCtorEq, jO, jM, jN, jK, jL] at u1
 try simp (disch := omega) only [go_sem, jA, jB, jC, jD, jE, jF, jG, jH, jI, jJ, ↓reduceIte, reduceCtorEq, jO, jM, jN, jK, jL, u0, u1, hP.flat, hP.cells, hP.one, dvs_length]
 refine awp_upG [3, 5, 13, 14, 15, 16, 17, 18, 19, 20, 21, 22, 23, 24, 25] (by kernel_rfl) K.ds.length (fun k e σ => e 13 = .int .i64 k ∧ n1 ≤ σ.n ∧ (∀ i, i < n1 → i ≠ n0 → σ.ob i = ob1 i) ∧ σ.ob n0 = some ⟨c0, 3, 31, false, true, [.agg [XP, .int .i64 K.nx, .list 7 (dvs K.ds)]]⟩ ∧
  ∃ Y Fs, At e 3 Y ∧ SlR 7 tyDv σ (dvXs (K.ds.take k) Fs) Y ∧ IC 1 tySg σ Fs (inS (K.ds.take k)) ∧ Grp σ n1 Y Fs) ?_ ?_
 ·exact ⟨(by first | rfl | (simp (disch := omega) only [go_sem, jA, jB, jC, jD, jE, jF, jG, jH, jI, jJ, ↓reduceIte, reduceCtorEq, jP, jO, jM, jN]; try rfl)), Nat.le_refl _, fun i hi hne => upd_ne _ _ _ _ hne, by try simp (disch := omega) only [go_sem, jA, jB, jC, jD, jE, jF, jG, jH, jI, jJ, ↓reduceIte, reduceCtorEq, jO, jM, jN, jK, jL], .nil, [], (by simp only [At]; try simp (disch := omega) only [go_sem, jA, jB, jC, jD, jE, jF, jG, jH, jI, jJ, ↓reduceIte, reduceCtorEq, jO, jM, jN, jK, jL]), by simp [dvXs]; exact SlR.nil, IC.nil _ _ _, Grp.nil _ _⟩
 rintro k fe ob m c hk hm ⟨h13, hm1, ho, hb, Y, Fs, h3, hY, hJ, hH⟩
 simp (maxSteps := 1000000) only [go_sem, jA, jB, jC, jD, jE, jF, jG, jH, jI, jJ, ↓reduceIte, reduceCtorEq, jP, At] at h13 hm hm1 ho hb h3
 try simp (disch := omega) only [go_sem, jA, jB, jC, jD, jE, jF, jG, jH, jI, jJ, ↓reduceIte, reduceCtorEq, jO, jM, jN, jK, jL, h13, dvs_length]
 refine cond_d (fun hlt => ?_) (fun hge => ?_)
 ·have hkl : k < K.ds.length := by omega
  have hk2 : K.ds[k]? = some K.ds[k] := List.getElem?_eq_getElem hkl
  have hxl := h5 _ (List.getElem_mem hkl)
  have htk : K.ds.take (k + 1) = K.ds.take k ++ [K.ds[k]] := take_snocA _ _ hkl
  have hEl : Fs.length = k := by have := hJ.1; simp [inS] at this; omega
  generalize K.ds[k] = w at *
  try simp (disch := omega) only [go_sem, jA, jB, jC, jD, jE, jF, jG, jH, jI, jJ, ↓reduceIte, reduceCtorEq, jO, jM, jN, jK, jL, h13, dvs_length, dvs_get, hk2, Option.map_some, dvv, dvX]
  refine ⟨by omega, by omega, ?_⟩
  refine app_slrs (M := ints w.sg) (b := 8) SlR.nil (by simp [ints_length]; omega) (by simp [ints_length]; omega) fun E τ1 hE kE => ?_
  obtain ⟨ob6, m6, c6⟩ := τ1
  obtain ⟨e1, e2, e3⟩ := kE
  simp only [List.nil_append] at hE
  have e1' : m + 1 ≤ m6 := e1
  have e2' : ∀ i, i < m → ob6 i = ob i := fun i hi => (e2 i (by simp only; omega) (Oth.nil _)).trans (by simp only; rw [upd_ne _ _ _ _ (by omega), upd_ne _ _ _ _ (by omega)])
  have e3' : ∀ i, i < m + 1 → Oth E i := fun i hi => e3 i hi (Oth.nil _)
  have hw6 := e2 m (by simp only; omega) (Oth.nil _)
  simp only [upd_same] at hw6
  clear u1 k2 k3 k1 e1 e2 e3
  have z3 : ¬ m = n0 := by omega
  have z5 : ¬ m = m6 := by omega
  have oY : ∀ i, i < n1 → Oth Y i := fun i hi => Oth.em fun h => by have := (hH.low i h).1; omega
  have oYm : ∀ i, m ≤ i → Oth Y i := fun i hi => hY.oth hi
  try simp (disch := omega) only [go_sem, jA, jB, jC, jD, jE, jF, jG, jH, jI, jJ, ↓reduceIte, reduceCtorEq, jO, jM, jN, jK, jL, hE.flat, hE.cells, hE.one, hw6, z3, z5, h3]
  refine app_er (ER.of_sl (L := [dvX w E]) (upd_same _ _ _) (Nat.lt_succ_self _)) ?_
  have hYl : (dvXs (K.ds.take k) Fs).length ≤ 1000000 := by simp [dvXs]; omega
  refine app_slr (b := 72) (hY.move (by simp only; omega) fun i hi hh => ?_) (by omega) (by omega) fun Y' τ2 hY2 kY => ?_
  ·simp only at hi ⊢
   rw [upd_ne _ _ _ _ (by omega), upd_ne _ _ _ _ (by omega), e2' i hi]
  obtain ⟨ob7, m7, c7⟩ := τ2
  have q1 : m6 + 1 ≤ m7 := kY.1
  have q2 : ∀ i, i < m → Oth Y i → ob7 i = ob i := fun i hi h => (kY.2.1 i (by simp only; omega) h).trans (by simp only; rw [upd_ne _ _ _ _ (by omega), upd_ne _ _ _ _ (by omega), e2' i hi])
  have q3 : ∀ i, m + 1 ≤ i → i < m6 → ob7 i = ob6 i := fun i hi hi2 => (kY.2.1 i (by simp only; omega) (oYm i (by omega))).trans (by simp only; rw [upd_ne _ _ _ _ (by omega), upd_ne _ _ _ _ (by omega)])
  have hEi : ∀ i, ¬ Oth E i → m + 1 ≤ i ∧ i < m6 := fun i hi => ⟨Nat.le_of_not_lt fun h => hi (e3' i h), hE.lt hi⟩
  try simp (disch := omega) only [go_sem, jA, jB, jC, jD, jE, jF, jG, jH, jI, jJ, ↓reduceIte, reduceCtorEq, jO, jM, jN, jK, jL, h13]
  refine up_nextG m7 hkl (by omega) ⟨(by first | rfl | (simp (disch := omega) only [go_sem, jA, jB, jC, jD, jE, jF, jG, jH, jI, jJ, ↓reduceIte, reduceCtorEq, jP, jO, jM, jN]; try rfl)), by simp only [St.trunc]; omega, fun i hi hne => ?_, ?_, Y', Fs ++ [E], (by simp only [At]; try simp (disch := omega) only [go_sem, jA, jB, jC, jD, jE, jF, jG, jH, jI, jJ, ↓reduceIte, reduceCtorEq, jO, jM, jN, jK, jL]), ?_, ?_, ?_⟩
  ·rw [tr_ob (by omega), q2 i (by omega) (oY i hi)]; exact ho i hi hne
  ·rw [tr_ob (by omega), q2 n0 (by omega) (oY n0 (by omega))]; exact hb
  ·rw [htk, dvXs_snoc (by simp; omega)]
   exact hY2.tr
  ·rw [htk, show inS (K.ds.take k ++ [w]) = inS (K.ds.take k) ++ [ints w.sg] by simp [inS]]
   refine IC.snoc (hJ.move (by simp only [St.trunc]; omega) fun F hF2 i hi hlt => ?_) (hE.move (by simp only [St.trunc]; omega) fun i hlt hi => ?_)
   ·have hi1 := (hH.loE F hF2 i hi).1
    simp only at hlt
    rw [tr_ob (by omega), q2 i hlt (hH.sep F hF2 i hi)]
   ·have hi1 := hEi i hi
    rw [tr_ob (by omega), q3 i hi1.1 hi1.2]
  ·exact (hH.snoc (by simp only; omega) (show m ≤ m6 + 1 by omega) (fun i hi => ⟨by have := (hEi i hi).1; simp only; omega, by have := (hEi i hi).2; simp only; omega⟩) kY fun i hi => hY2.oth hi).up (Nat.le_refl _)
 obtain rfl : k = K.ds.length := by omega
 rw [List.take_length] at hY hJ
 have u1' : ob (n0 + 1) = some ⟨c0 + 1, 3, 31, false, true, [.agg [.nil, .int .i64 0, .nil]]⟩ := by rw [ho _ (by omega) (by omega), u1]
 have zz : ¬ n0 + 1 = n0 := by omega
 have zz2 : ¬ n0 = n0 + 1 := by omega
 try simp (disch := omega) only [go_sem, jA, jB, jC, jD, jE, jF, jG, jH, jI, jJ, ↓reduceIte, reduceCtorEq, jO, jM, jN, jK, jL, hb, u1', zz, zz2, h3, hY.flat, hY.cells, hY.one, hP.flat, hP.cells, hP.one]
 have k3' : ∀ i, ¬ Oth XP i → n0 + 2 ≤ i := fun i hi => Nat.le_of_not_lt fun h => hi (k3 i h (Oth.nil _))
 have z3 : ∀ (x y : Option AObj) i, i ≠ n0 → i ≠ n0 + 1 → upd (upd ob n0 x) (n0 + 1) y i = ob i := fun x y i h1 h2 => by rw [upd_ne _ _ _ _ h2, upd_ne _ _ _ _ h1]
 refine ⟨XP, Y, Fs, n1, rfl, by simp only; omega, hm1, hP.move hm1 fun i hi hh => ?_, fun i hi => ⟨by have := k3' i hi; simp only; omega, hP.lt hi⟩, hY.move (Nat.le_refl _) fun i hi hh => ?_, hJ.move (Nat.le_refl _) fun E hE i hi hh => ?_, hH.up (Nat.le_refl _), fun i hi => ?_⟩
 ·have h1 := k3' i hh
  simp only at hi ⊢
  rw [z3 _ _ i (by omega) (by omega), ho i hi (by omega)]
 ·have h1 := (hH.low i hh).1
  simp only
  rw [z3 _ _ i (by omega) (by omega)]
 ·have h1 := (hH.loE E hE i hi).1
  simp only
  rw [z3 _ _ i (by omega) (by omega)]
 ·simp only at hi ⊢
  rw [z3 _ _ i (by omega) (by omega), ho i (by omega) (by omega)]
  refine (k2 i (by simp only; omega) (Oth.nil _)).trans ?_
  simp only
  rw [upd_ne _ _ _ _ (by omega), upd_ne _ _ _ _ (by omega)]
theorem pub_dk {σ : St} {ps : List Pn} {ds : List Dv} {n : Int} {XP XA : AV} {Fs : List AV} (hP : SlR 3 tyPn σ (pns ps) XP) (hA : SlR 7 tyDv σ (dvXs ds Fs) XA) (hI : IC 1 tySg σ Fs (inS ds)) : Pub σ (.agg [XP, .int .i64 n, XA]) (dkv ⟨ps, n, ds⟩) := by
 have hl : Fs.length = ds.length := by have := hI.1; simpa [inS] using this
 refine Pub.ag (.cons (hP.pub (fun _ _ _ => rfl) (pns_pur _) (pns_ok _)) (.cons (Pub.e rfl) (.cons (pub_slx hA (fun _ _ _ => rfl) (by simp [dvXs, dvs, hl]) (fun i x y hx hy => ?_) (dvs_ok _)) .nil)))
 rw [dvs_get] at hy
 obtain ⟨d, hd, rfl⟩ := Option.map_eq_some_iff.1 hy
 simp only [dvXs, List.getElem?_zipWith, hd] at hx
 cases hF : Fs[i]? with
 | none => simp [hF] at hx
 | some E =>
  simp only [hF, Option.some.injEq] at hx
  subst hx
  have hp := hI.pub (τ := σ) (fun _ _ _ _ _ => rfl) (by simp [inS]; intro a _; exact ints_pur _) (by simp [inS]; intro a _; exact ints_ok _) i E (ints d.sg) hF (by simp [inS, hd])
  exact Pub.ag (.cons (Pub.e rfl) (.cons (Pub.e rfl) (.cons (Pub.e rfl) (.cons (Pub.e rfl) (.cons (Pub.e rfl) (.cons hp (.cons (Pub.e rfl) .nil)))))))
structure DkB (K : Dk) : Prop where
 lp : K.ps.length ≤ 12
 ld : K.ds.length ≤ 64
 ip : ∀ p ∈ K.ps, 0 ≤ p.id ∧ p.id ≤ 1073741824
 kd : ∀ d ∈ K.ds, 0 ≤ d.id ∧ d.id ≤ 1073741824 ∧ d.sg.length ≤ 2
theorem dk0_b : DkB dk0 := ⟨by simp [dk0], by simp [dk0], by simp [dk0], by simp [dk0]⟩
theorem chkD_nx {K : Dk} (h : chkD K = true) : 1 ≤ K.nx ∧ K.nx ≤ 1073741824 ∧ K.ps.length ≤ 12 ∧ K.ds.length ≤ 64 := by
 simp only [chkD, Bool.and_eq_true, inD, decide_eq_true_eq] at h
 exact ⟨h.1.1.1.2.1, h.1.1.1.2.2, h.1.1.1.1, h.1.1.2⟩
structure DkS (K : Dk) : Prop where
 lp : K.ps.length ≤ 9223372036854775807
 ld : K.ds.length ≤ 9223372036854775807
theorem DkB.s {K : Dk} (h : DkB K) : DkS K := ⟨by have := h.lp; omega, by have := h.ld; omega⟩
theorem chkD_rgt {K : Dk} (h : chkD K = true) {d : Dv} (hd : d ∈ K.ds) : rgtS K d = true := by
 obtain ⟨i, hi⟩ := List.getElem?_of_mem hd
 have hil := (List.getElem?_eq_some_iff.1 hi).1
 simp only [chkD, Bool.and_eq_true, List.all_eq_true, List.mem_range] at h
 have h1 := h.2 i hil
 simp only [okD, Bool.and_eq_true] at h1
 rw [gD_get hil] at hi
 obtain rfl := Option.some.inj hi
 exact h1.2
theorem chkD_sg {K : Dk} (h : chkD K = true) {d : Dv} (hd : d ∈ K.ds) : d.sg.length ≤ 2 := by
 have h1 := chkD_rgt h hd
 simp only [rgtS, Bool.and_eq_true, decide_eq_true_eq] at h1
 exact h1.1.1.2
theorem reqS_b {K : Dk} (h : DkB K) (site fr to rel : Int) : DkB (reqS K site fr to rel).1 := by
 unfold reqS
 cases hc : chkD K
 ·simp only [if_true]; exact dk0_b
 have h1 := chkD_nx hc
 simp only [Bool.true_eq_false, if_false]
 split
 ·exact dk0_b
 split
 ·exact dk0_b
 split
 ·exact dk0_b
 split
 ·exact dk0_b
 ·rename_i hn
  refine ⟨h.lp, by simp; omega, h.ip, fun d hd => ?_⟩
  rcases List.mem_append.1 hd with hd | hd
  ·exact h.kd d hd
  ·obtain rfl : d = _ := by simpa using hd
   exact ⟨by simp only; omega, by simp only; omega, by simp⟩
theorem set_kd {K : Dk} (h : DkB K) {i : Nat} {d : Dv} (hd : 0 ≤ d.id ∧ d.id ≤ 1073741824 ∧ d.sg.length ≤ 2) : DkB ⟨K.ps, K.nx, K.ds.set i d⟩ :=
 ⟨h.lp, by simpa using h.ld, h.ip, fun e he => by
  rcases List.mem_or_eq_of_mem_set he with he | rfl
  ·exact h.kd e he
  ·exact hd⟩
theorem gD_kd {K : Dk} (h : DkB K) (i : Nat) : 0 ≤ (gD K.ds i).id ∧ (gD K.ds i).id ≤ 1073741824 ∧ (gD K.ds i).sg.length ≤ 2 := by
 by_cases hi : i < K.ds.length
 ·exact h.kd _ (List.mem_of_getElem? (gD_get hi))
 ·have : gD K.ds i = default := by rw [gD, List.getD_eq_getElem?_getD, List.getElem?_eq_none (by omega)]; rfl
  rw [this]; simp [default, instInhabitedDv.default]
theorem sgnS_b {K : Dk} (h : DkB K) (id who code now : Int) : DkB (sgnS K id who code now).1 := by
 simp only [sgnS]
 split
 ·exact dk0_b
 split
 ·exact dk0_b
 split
 ·exact dk0_b
 ·rename_i h1 h2 _
  have hg := gD_kd h (askS K id who code now 1).1.toNat
  exact set_kd h ⟨hg.1, hg.2.1, by simp; omega⟩
theorem wdrS_b {K : Dk} (h : DkB K) (id who code now : Int) : DkB (wdrS K id who code now).1 := by
 simp only [wdrS]
 split
 ·exact dk0_b
 ·have hg := gD_kd h (askS K id who code now 2).1.toNat
  exact set_kd h ⟨hg.1, hg.2.1, hg.2.2⟩
theorem dkv_flat (K : Dk) : (dkv K).flat = true := by simp [dkv, go_sem]
theorem dkv_len (K : Dk) : (dkv K).cells.length = 3 := rfl
theorem dkv_tk (K : Dk) : AV.agg ((dkv K).cells.take 3) = dkv K := rfl
theorem dkv_dt (K : Dk) : AV.agg (((dkv K).cells.drop 0).take 3) = dkv K := rfl
theorem dkv_0 (K : Dk) : (dkv K).cells.getD 0 .junk = .list 3 (pns K.ps) := rfl
theorem dkv_1 (K : Dk) : (dkv K).cells.getD 1 .junk = .int .i64 K.nx := rfl
theorem dkv_2 (K : Dk) : (dkv K).cells.getD 2 .junk = .list 7 (dvs K.ds) := rfl
theorem dk_put (K : Dk) (a b c : AV) : setc 0 (.agg [a, b, c]) (dkv K) = .agg [a, b, c] := rfl
theorem pub_dk0 {σ : St} : Pub σ (.agg [.nil, .int .i64 0, .nil]) (dkv dk0) := Pub.ag (.cons (.nl 3) (.cons (Pub.e rfl) (.cons (.nl 7) .nil)))
theorem okS_ref26_Request (K : Dk) (hB : DkS K) (site fr to rel : Int) : PC prog n_ref26_Request [dkv K, .int .i64 site, .int .i64 fr, .int .i64 to, .int .i64 rel] (.tuple [dkv (reqS K site fr to rel).1, .int .i64 (reqS K site fr to rel).2.1, .int .i64 (reqS K site fr to rel).2.2]) := by
 have hlp := hB.lp
 have hld := hB.ld
 refine PC_of_body b_ref26_Request (by simp) ?_
 simp only [c_ref26_Request]
 have hKp := dkv_pur K
 have bad : ∀ {σ : St} (e : Int), reqS K site fr to rel = (dk0, 0, e) → Pub σ (.tuple [.agg [.nil, .int .i64 0, .nil], .int .i64 0, .int .i64 e]) (.tuple [dkv (reqS K site fr to rel).1, .int .i64 (reqS K site fr to rel).2.1, .int .i64 (reqS K site fr to rel).2.2]) := fun e h => by
  rw [h]; exact Pub.tu (.cons pub_dk0 (.cons (Pub.e rfl) (.cons (Pub.e rfl) .nil)))
 try simp (disch := omega) only [go_sem, jA, jB, jC, jD, jE, jF, jG, jH, jI, jJ, ↓reduceIte, reduceCtorEq, jO, jM, jN, jK, jL, dkv_flat, dkv_len, dkv_tk, dkv_dt]
 refine call_pc (ok_ref26_Check K (by omega) (by omega)) (by simp [hKp]) ?_
 rw [chkDS]
 cases hc : chkD K
 ·try simp (disch := omega) only [go_sem, jA, jB, jC, jD, jE, jF, jG, jH, jI, jJ, ↓reduceIte, reduceCtorEq, jO, jM, jN, jK, jL]
  exact bad 50 (by rw [reqS, if_pos hc])
 try simp (disch := omega) only [go_sem, jA, jB, jC, jD, jE, jF, jG, jH, jI, jJ, ↓reduceIte, reduceCtorEq, jO, jM, jN, jK, jL]
 refine call_pc (ok_ref26_in _ _ _) (by simp [go_sem]) ?_
 cases h2 : inD site 0 5
 ·try simp (disch := omega) only [go_sem, jA, jB, jC, jD, jE, jF, jG, jH, jI, jJ, ↓reduceIte, reduceCtorEq, jO, jM, jN, jK, jL]
  exact bad 40 (by rw [reqS, if_neg (by simp [hc]), if_pos h2])
 try simp (disch := omega) only [go_sem, jA, jB, jC, jD, jE, jF, jG, jH, jI, jJ, ↓reduceIte, reduceCtorEq, jO, jM, jN, jK, jL]
 refine gd_fd rfl (fun h3 => ?_) (fun h3 => ?_) <;> try simp (disch := omega) only [go_sem, jA, jB, jC, jD, jE, jF, jG, jH, jI, jJ, ↓reduceIte, reduceCtorEq, jO, jM, jN, jK, jL]
 ·exact bad 6 (by rw [reqS, if_neg (by simp [hc]), if_neg (by simp [h2]), if_pos (.inl h3)])
 refine gd_fd rfl (fun h4 => ?_) (fun h4 => ?_) <;> try simp (disch := omega) only [go_sem, jA, jB, jC, jD, jE, jF, jG, jH, jI, jJ, ↓reduceIte, reduceCtorEq, jO, jM, jN, jK, jL]
 ·exact bad 6 (by rw [reqS, if_neg (by simp [hc]), if_neg (by simp [h2]), if_pos (.inr (.inl h4))])
 refine cond_d (fun h5 => ?_) (fun h5 => ?_) <;> try simp (disch := omega) only [go_sem, jA, jB, jC, jD, jE, jF, jG, jH, jI, jJ, ↓reduceIte, reduceCtorEq, jO, jM, jN, jK, jL]
 ·exact bad 6 (by rw [reqS, if_neg (by simp [hc]), if_neg (by simp [h2]), if_pos (.inr (.inr h5))])
 refine call_pc (ok_ref26_in _ _ _) (by simp [go_sem]) ?_
 cases h6 : inD rel 0 1073741824
 ·try simp (disch := omega) only [go_sem, jA, jB, jC, jD, jE, jF, jG, jH, jI, jJ, ↓reduceIte, reduceCtorEq, jO, jM, jN, jK, jL]
  exact bad 1 (by rw [reqS, if_neg (by simp [hc]), if_neg (by simp [h2]), if_neg (by omega), if_pos h6])
 try simp (disch := omega) only [go_sem, jA, jB, jC, jD, jE, jF, jG, jH, jI, jJ, ↓reduceIte, reduceCtorEq, jO, jM, jN, jK, jL, dkv_2, dkv_1, dvs_length]
 refine gd_fd rfl (fun h7 => ?_) (fun h7 => ?_) <;> try simp (disch := omega) only [go_sem, jA, jB, jC, jD, jE, jF, jG, jH, jI, jJ, ↓reduceIte, reduceCtorEq, jO, jM, jN, jK, jL, dkv_1]
 ·exact bad 10 (by rw [reqS, if_neg (by simp [hc]), if_neg (by simp [h2]), if_neg (by omega), if_neg (by simp [h6]), if_pos (.inl (by omega))])
 refine cond_d (fun h8 => ?_) (fun h8 => ?_) <;> try simp (disch := omega) only [go_sem, jA, jB, jC, jD, jE, jF, jG, jH, jI, jJ, ↓reduceIte, reduceCtorEq, jO, jM, jN, jK, jL]
 ·exact bad 10 (by rw [reqS, if_neg (by simp [hc]), if_neg (by simp [h2]), if_neg (by omega), if_neg (by simp [h6]), if_pos (.inr h8)])
 try simp (disch := omega) only [go_sem, jA, jB, jC, jD, jE, jF, jG, jH, jI, jJ, ↓reduceIte, reduceCtorEq, jO, jM, jN, jK, jL, dkv_flat, dkv_len, dkv_tk, dkv_dt]
 have hS : reqS K site fr to rel = (⟨K.ps, K.nx + 1, K.ds ++ [⟨K.nx, site, fr, to, rel, [], false⟩]⟩, K.nx, 0) := by
  rw [reqS, if_neg (by simp [hc]), if_neg (by simp [h2]), if_neg (by omega), if_neg (by simp [h6]), if_neg (by omega)]
 have hnx := chkD_nx hc
 refine (hc_ref26_Copy _ K (by omega) (by omega) fun d hd => by have := chkD_sg hc hd; omega).mono ?_
 rintro r ⟨ob1, n1, c1⟩ ⟨XP, XA, Fs, l1, rfl, hl1, hl2, hP, hPl, hA, hI, hG, hfr⟩
 simp only at hl1 hl2 hPl hfr
 have u0 := hfr 0 (by omega)
 have u1 := hfr 1 (by omega)
 try simp (disch := omega) only [go_sem, jA, jB, jC, jD, jE, jF, jG, jH, jI, jJ, ↓reduceIte, reduceCtorEq, jO, jM, jN, jK, jL] at u0
 try simp (disch := omega) only [go_sem, jA, jB, jC, jD, jE, jF, jG, jH, jI, jJ, ↓reduceIte, reduceCtorEq, jO, jM, jN, jK, jL] at u1
 try simp (disch := omega) only [go_sem, jA, jB, jC, jD, jE, jF, jG, jH, jI, jJ, ↓reduceIte, reduceCtorEq, jO, jM, jN, jK, jL, u0, u1, hP.flat, hP.cells, hP.one, hA.flat, hA.cells, hA.one, dk_put]
 have hXl : (dvXs K.ds Fs).length ≤ 64 := by simp [dvXs]; omega
 have hFl : Fs.length = K.ds.length := by have := hI.1; simpa [inS] using this
 refine app_slr (b := 72) (hA.move (τ := ⟨_, n1, c1⟩) (Nat.le_refl _) fun i hi hh => ?_) (by omega) (by omega) fun X' τ2 hX2 kX => ?_
 ·have := (hG.low i hh).1
  simp only
  rw [upd_ne _ _ _ _ (by omega)]
 obtain ⟨ob3, m3, c3⟩ := τ2
 have oX : ∀ i, i < l1 → Oth XA i := fun i hi => Oth.em fun h => by have := (hG.low i h).1; omega
 have q0 := kX.2.1 0 (by simp only; omega) (oX 0 (by omega))
 have q1 := kX.2.1 1 (by simp only; omega) (oX 1 (by omega))
 have q2 : ∀ i, 2 ≤ i → i < n1 → Oth XA i → ob3 i = ob1 i := fun i h2 hi ho => (kX.2.1 i hi ho).trans (by simp only; rw [upd_ne _ _ _ _ (by omega)])
 have hn3 : n1 ≤ m3 := kX.1
 try simp (disch := omega) only [go_sem, jA, jB, jC, jD, jE, jF, jG, jH, jI, jJ, ↓reduceIte, reduceCtorEq, jO, jM, jN, jK, jL] at q0
 try simp (disch := omega) only [go_sem, jA, jB, jC, jD, jE, jF, jG, jH, jI, jJ, ↓reduceIte, reduceCtorEq, jO, jM, jN, jK, jL, u1] at q1
 have zm : ∀ (x y z : Option AObj) i, 2 ≤ i → upd (upd (upd ob3 0 x) 0 y) 1 z i = ob3 i := fun x y z i h => by rw [upd_ne _ _ _ _ (by omega), upd_ne _ _ _ _ (by omega), upd_ne _ _ _ _ (by omega)]
 try simp (disch := omega) only [go_sem, jA, jB, jC, jD, jE, jF, jG, jH, jI, jJ, ↓reduceIte, reduceCtorEq, jO, jM, jN, jK, jL, q0, q1, hP.flat, hP.cells, hP.one, hX2.flat, hX2.cells, hX2.one]
 rw [hS]
 have oX2 : ∀ i, i < l1 → Oth X' i := fun i hi => kX.2.2 i (by simp only; omega) (oX i hi)
 have hX3 : SlR 7 tyDv ⟨ob3, m3, c3⟩ (dvXs (K.ds ++ [⟨K.nx, site, fr, to, rel, [], false⟩]) (Fs ++ [.nil])) X' := by rw [dvXs_snoc (by omega)]; exact hX2
 refine Pub.tu (.cons (pub_dk (hP.move hn3 fun i hi hh => ?_) (hX3.move (Nat.le_refl _) fun i hi hh => ?_) ?_) (.cons (by rw [show K.nx + 1 - 1 = K.nx by omega]; exact Pub.e rfl) (.cons (Pub.e rfl) .nil)))
 ·have h9 := hPl i hh
  simp only
  rw [zm _ _ _ i h9.1, q2 i h9.1 hi (oX i h9.2)]
 ·have h9 : 2 ≤ i := Nat.le_of_not_lt fun h => hh (oX2 i (by omega))
  simp only
  rw [zm _ _ _ i h9]
 ·rw [show inS (K.ds ++ [⟨K.nx, site, fr, to, rel, [], false⟩]) = inS K.ds ++ [ints []] by simp [inS]]
  refine IC.snoc (hI.move hn3 fun E hE i hi hlt => ?_) SlR.nil
  have h9 := (hG.loE E hE i hi).1
  simp only
  rw [zm _ _ _ i (by omega), q2 i (by omega) hlt (hG.sep E hE i hi)]
theorem ok_ref26_Request (K : Dk) (hB : DkB K) (site fr to rel : Int) : PC prog n_ref26_Request [dkv K, .int .i64 site, .int .i64 fr, .int .i64 to, .int .i64 rel] (.tuple [dkv (reqS K site fr to rel).1, .int .i64 (reqS K site fr to rel).2.1, .int .i64 (reqS K site fr to rel).2.2]) := okS_ref26_Request K hB.s site fr to rel
end Go.Proofs.Try
