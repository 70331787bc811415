/- OWN WORK, put together by tools/asm.py, seat.py, mini.py. -/
import Derived.Test.YtbfefempldcfoaaCode2
set_option linter.unusedSimpArgs false
set_option linter.unusedVariables false
set_option maxRecDepth 100000
set_option maxHeartbeats 1000000
namespace Go.Proofs.Try
open Go.Ab Go
open Int renaming reduceEq → jA, reduceLT → jB, reduceLE → jC, reduceToNat → jD
open Go.Ab renaming w_ite_ne → jM, w_ite_lt → jN, wrap_id → jO, w_app_nl → jP
open Nat renaming reduceLT → jE, reduceEqDiff → jF, reduceAdd → jG, reduceLeDiff → jH, reduceSub → jI, reduceMul → jJ, sub_zero → jK, sub_self → jL
theorem tmod_mod (n k : Int) (hk : 0 < k) : (n.tmod k + k).tmod k = n % k := by
 have h2 := Int.tmod_eq_emod (a := n) (b := k)
 have h3 := Int.emod_nonneg n (show k ≠ 0 by omega)
 have h4 := Int.emod_lt_of_pos n hk
 have h5 : 0 ≤ n.tmod k + k := by rw [h2]; split <;> omega
 rw [Int.tmod_eq_emod_of_nonneg h5, Int.add_emod_right, h2]
 split
 ·simp
 ·rw [show ((k.natAbs : Nat) : Int) = k by omega, Int.sub_emod_right]; exact Int.emod_emod_of_dvd n (Int.dvd_refl k)
theorem tmod_bd (n k : Int) (hk : 0 < k) : -k < n.tmod k ∧ n.tmod k < k := by
 have h2 := Int.tmod_eq_emod (a := n) (b := k)
 have h3 := Int.emod_nonneg n (show k ≠ 0 by omega)
 have h4 := Int.emod_lt_of_pos n hk
 by_cases h : 0 ≤ n ∨ k ∣ n
 ·rw [if_pos h] at h2; omega
 ·rw [if_neg h] at h2
  have : n % k ≠ 0 := fun h0 => h (.inr (Int.dvd_of_emod_eq_zero h0))
  omega
def ints (l : List Int) : List AV := l.map (.int .i64)
theorem ints_length (l : List Int) : (ints l).length = l.length := by simp [ints]
theorem ints_get (l : List Int) (i : Nat) : (ints l)[i]? = (l[i]?).map (AV.int .i64) := by simp [ints]
theorem ints_pur (l : List Int) : ∀ x ∈ ints l, x.pur = true := by simp [ints, go_sem]
theorem ints_ok (l : List Int) : ∀ x ∈ ints l, okE 1 x := by simp [ints, okE, go_sem]
structure Bd where
 lo : Int
 hi : Int
 deriving DecidableEq, Inhabited
def bdv (b : Bd) : AV := .agg [.int .i64 b.lo, .int .i64 b.hi]
def bds (l : List Bd) : List AV := l.map bdv
theorem bds_length (l : List Bd) : (bds l).length = l.length := by simp [bds]
theorem bds_get (l : List Bd) (i : Nat) : (bds l)[i]? = (l[i]?).map bdv := by simp [bds]
theorem bds_pur (l : List Bd) : ∀ x ∈ bds l, x.pur = true := by simp [bds, bdv, go_sem]
theorem bds_ok (l : List Bd) : ∀ x ∈ bds l, okE 2 x := by simp [bds, bdv, okE, go_sem]
def runS {α : Type} (f : α → α) (b : α) : Nat → α
 | 0 => b
 | k + 1 => f (runS f b k)
theorem ok_mk_Mod (n k : Int) (hk : 0 < k) (hk2 : k ≤ 4611686018427387904) : PC prog n_mk_Mod [.int .i64 n, .int .i64 k] (.int .i64 (n % k)) := by
 have h1 := tmod_bd n k hk
 refine PC_of_body b_mk_Mod (by simp) ?_
 simp (disch := omega) only [c_mk_Mod, go_sem, jA, jB, jC, jD, jE, jF, jG, jH, jI, jJ, ↓reduceIte, reduceCtorEq, jP, jO]
 exact ⟨by omega, by omega, Pub.of_eq (by rw [tmod_mod n k hk]) rfl⟩
def deckV (l : List Int) (at' : Nat) : AV := .agg [.list 1 (ints l), .int .i64 at']
def deckR (l : List Int) (at' : Nat) (n : Int) : Int × Nat := if n < 1 ∨ l.length ≤ at' then (0, at') else (l.getD at' 0 % n, at' + 1)
theorem deckR_bd (l : List Int) (at' : Nat) (n : Int) : 0 ≤ (deckR l at' n).1 ∧ ((deckR l at' n).1 = 0 ∨ (deckR l at' n).1 < n) := by
 unfold deckR
 split
 ·simp
 ·have h1 := Int.emod_nonneg (l.getD at' 0) (show n ≠ 0 by omega)
  have h2 := Int.emod_lt_of_pos (l.getD at' 0) (show 0 < n by omega)
  exact ⟨h1, .inr h2⟩
theorem upd_self {α : Type} (f : Nat → α) (i : Nat) (x : α) (h : f i = x) : upd f i x = f := by
 funext j; by_cases e : j = i
 ·subst e; rw [upd_same, h]
 ·rw [upd_ne _ _ _ _ e]
abbrev ty_Deck : TypeId := 77
theorem ok_mk_New (σ : St) (l : List Int) : HC prog n_mk_New [.list 1 (ints l)] σ (fun r σ' => r = .ptr σ.n σ.c 2 0 0 ∧ σ' = σ.push 2 ty_Deck [deckV l 0]) := by
 refine HC_of_body b_mk_New (by simp) ?_
 simp only [c_mk_New, go_sem, jA, jB, jC, jD, jE, jF, jG, jH, jI, jJ, ↓reduceIte, reduceCtorEq, jP]
 simp [deckV]
theorem ok_mk_Deck_Next (σ : St) (id g : Nat) (ty : TypeId) (ap : Bool) (l : List Int) (at' : Nat) (n : Int) (hob : σ.ob id = some ⟨g, 2, ty, false, ap, [deckV l at']⟩) (hn : n ≤ 4611686018427387904) (hl : l.length ≤ 9223372036854775807) :
  HC prog n_mk_Deck_Next [.ptr id g 2 0 0, .int .i64 n] σ (fun r σ' => r = .int .i64 (deckR l at' n).1 ∧ σ' = ⟨upd σ.ob id (some ⟨g, 2, ty, false, ap, [deckV l (deckR l at' n).2]⟩), σ.n, σ.c⟩) := by
 obtain ⟨ob, nn, cc⟩ := σ
 simp only at hob
 refine HC_of_body b_mk_Deck_Next (by simp) ?_
 simp only [c_mk_Deck_Next, go_sem, jA, jB, jC, jD, jE, jF, jG, jH, jI, jJ, ↓reduceIte, reduceCtorEq, jP, hob, deckV]
 have no : (n < 1 ∨ l.length ≤ at') → AV.int IntKind.i64 0 = AV.int IntKind.i64 (deckR l at' n).fst ∧ St.mk ob nn cc = St.mk (upd ob id (some ⟨g, 2, ty, false, ap, [.agg [.list 1 (ints l), .int .i64 (deckR l at' n).2]]⟩)) nn cc := by
  intro h
  rw [show deckR l at' n = (0, at') by unfold deckR; rw [if_pos h]]
  exact ⟨rfl, by have h1 := upd_self ob id _ hob; simp only [deckV] at h1 ⊢; rw [h1]⟩
 refine gd_fd rfl (fun h => ?_) (fun h => ?_) <;> simp (maxSteps := 1000000) only [go_sem, jA, jB, jC, jD, jE, jF, jG, jH, jI, jJ, ↓reduceIte, reduceCtorEq, jP, hob, deckV, ints_length]
 ·exact no (.inl h)
 refine cond_d (fun h2 => ?_) (fun h2 => ?_) <;> simp (maxSteps := 1000000) only [go_sem, jA, jB, jC, jD, jE, jF, jG, jH, jI, jJ, ↓reduceIte, reduceCtorEq, jP, hob, deckV, ints_length, ints_get]
 ·exact no (.inr (by omega))
 have hat : at' < l.length := by omega
 have hg : l[at']? = some l[at'] := List.getElem?_eq_getElem hat
 have hd : deckR l at' n = (l[at'] % n, at' + 1) := by unfold deckR; rw [if_neg (by omega)]; simp [List.getD_eq_getElem?_getD, hg]
 simp (maxSteps := 1000000) (disch := omega) only [go_sem, jA, jB, jC, jD, jE, jF, jG, jH, jI, jJ, ↓reduceIte, reduceCtorEq, jP, hg, jO]
 refine ⟨by omega, by omega, call_pc (ok_mk_Mod _ n (by omega) (by omega)) (by simp [go_sem]) ?_⟩
 simp (maxSteps := 1000000) only [go_sem, jA, jB, jC, jD, jE, jF, jG, jH, jI, jJ, ↓reduceIte, reduceCtorEq, jP, hd]
 simp
def Deck0 (σ : St) (id g : Nat) (t : List Int) (W : AV → Prop) (r : AV) (σ' : St) : Prop := ∃ r2 at2, Pub ⟨fun i => if i < σ.n then none else σ'.ob i, σ'.n, σ'.c⟩ r r2 ∧ W r2 ∧ σ'.ob id = some ⟨g, 2, ty_Deck, false, true, [deckV t at2]⟩ ∧ ∀ i, i < σ.n → i ≠ id → σ'.ob i = σ.ob i
def DeckR (σ : St) (id g : Nat) (t : List Int) (W : AV → Prop) (r : AV) (σ' : St) : Prop := ∃ at2 c, W r ∧ σ' = ⟨upd (fun i => if i < σ.n then σ.ob i else none) id (some ⟨g, 2, ty_Deck, false, true, [deckV t at2]⟩), σ.n, c⟩
theorem HC.deck {f : Nat} {args : List AV} {σ : St} {id g : Nat} {t : List Int} {W : AV → Prop} (hid : id < σ.n) (h : HC prog f args σ (Deck0 σ id g t W)) : HC prog f args σ (DeckR σ id g t W) := by
 refine HC.trunc σ.n (HC.seal (fun i => decide (i < σ.n)) h ?_)
 rintro r σ' ⟨r2, at2, h1, h2, h3, h4⟩
 refine ⟨r2, by simpa using h1, at2, σ'.c, h2, ?_⟩
 simp only [St.trunc]
 congr 1
 funext i
 simp only [upd]
 by_cases e : i = id
 ·subst e; simp [hid, h3]
 ·rw [if_neg e]
  by_cases hi : i < σ.n
  ·simp [hi, h4 i hi e]
  ·simp [hi]
theorem DeckR.use {σ σ' : St} {id g : Nat} {t : List Int} {W : AV → Prop} {r : AV} (h : DeckR σ id g t W r σ') (hid : id < σ.n) :
  W r ∧ σ'.n = σ.n ∧ (∃ at2, σ'.ob id = some ⟨g, 2, ty_Deck, false, true, [deckV t at2]⟩) ∧ ∀ i, i < σ.n → i ≠ id → σ'.ob i = σ.ob i := by
 obtain ⟨at2, c, h1, rfl⟩ := h
 exact ⟨h1, rfl, ⟨at2, by simp [upd]⟩, fun i hi h2 => by simp [upd, h2, hi]⟩
theorem upd_upd {α : Type} (f : Nat → α) (i : Nat) (x y : α) : upd (upd f i x) i y = upd f i y := by funext j; by_cases e : j = i <;> simp [upd, e]
def NewSl (σ : St) (es : Nat) (ty : TypeId) (l : List AV) (r : AV) (σ' : St) : Prop := ∃ g c, r = .sl (σ.n + 1) g es 0 l.length ∧ σ' = ⟨upd (upd σ.ob σ.n none) (σ.n + 1) (some ⟨g, es, ty, false, true, l⟩), σ.n + 2, c⟩
def NewSl1 (σ : St) (es : Nat) (ty : TypeId) (l : List AV) (r : AV) (σ' : St) : Prop := ∃ g c o, r = .sl (σ.n + 1) g es 0 l.length ∧ σ' = ⟨upd (upd σ.ob σ.n (some o)) (σ.n + 1) (some ⟨g, es, ty, false, true, l⟩), σ.n + 2, c⟩
theorem HC.new {f : Nat} {args : List AV} {σ : St} {es : Nat} {ty : TypeId} {l : List AV} (h : HC prog f args σ (NewSl1 σ es ty l)) : HC prog f args σ (NewSl σ es ty l) := by
 refine h.sub ?_
 rintro r σ' ⟨g, c, o, rfl, rfl⟩
 refine ⟨_, ?_, g, c, rfl, rfl⟩
 intro i o' h
 simp only [upd] at h ⊢
 split at h
 ·rename_i hi; rw [if_pos hi]; exact h
 ·rename_i hi
  rw [if_neg hi]
  split at h
  ·cases h
  ·rename_i h2; rw [if_neg h2]; exact h
def Oth (X : AV) (i : Nat) : Prop := ∀ g es o n, X ≠ .sl i g es o n
def SlR (es : Nat) (ty : TypeId) (σ : St) (L : List AV) (X : AV) : Prop := (X = .nil ∧ L = []) ∨ ∃ id g, X = .sl id g es 0 L.length ∧ id < σ.n ∧ σ.ob id = some ⟨g, es, ty, false, true, L⟩
theorem Oth.em {X : AV} {i : Nat} (h : ¬ ¬ Oth X i) : Oth X i := Classical.byContradiction h
theorem Oth.nil (i : Nat) : Oth .nil i := fun _ _ _ _ h => by cases h
theorem Oth.ne {id g es o n i : Nat} (h : Oth (.sl id g es o n) i) : ¬ id = i := fun e => h _ _ _ _ (by rw [e])
theorem Oth.sl {id g es o n i : Nat} (h : ¬ id = i) : Oth (.sl id g es o n) i := fun _ _ _ _ hh => by cases hh; exact h rfl
def Kp (σ : St) (X : AV) (τ : St) (X' : AV) : Prop := σ.n ≤ τ.n ∧ (∀ i, i < σ.n → Oth X i → τ.ob i = σ.ob i) ∧ ∀ i, i < σ.n → Oth X i → Oth X' i
theorem Kp.trans {σ τ ρ : St} {X Y Z : AV} (h : Kp σ X τ Y) (k : Kp τ Y ρ Z) : Kp σ X ρ Z :=
 ⟨Nat.le_trans h.1 k.1, fun i hi hx => (k.2.1 i (Nat.lt_of_lt_of_le hi h.1) (h.2.2 i hi hx)).trans (h.2.1 i hi hx), fun i hi hx => k.2.2 i (Nat.lt_of_lt_of_le hi h.1) (h.2.2 i hi hx)⟩
section
variable {es : Nat} {ty : TypeId} {σ τ : St} {L : List AV} {X : AV}
theorem SlR.nil : SlR es ty σ [] .nil := .inl ⟨rfl, rfl⟩
theorem SlR.one (h : SlR es ty σ L X) : X.one = true := by rcases h with ⟨rfl, _⟩ | ⟨id, g, rfl, _⟩ <;> rfl
theorem SlR.flat (h : SlR es ty σ L X) : X.flat = true := by rcases h with ⟨rfl, _⟩ | ⟨id, g, rfl, _⟩ <;> rfl
theorem SlR.cells (h : SlR es ty σ L X) : X.cells = [X] := by rcases h with ⟨rfl, _⟩ | ⟨id, g, rfl, _⟩ <;> rfl
theorem SlR.move (h : SlR es ty σ L X) (hn : σ.n ≤ τ.n) (ho : ∀ i, i < σ.n → ¬ Oth X i → τ.ob i = σ.ob i) : SlR es ty τ L X := by
 rcases h with h | ⟨id, g, rfl, h2, h3⟩
 ·exact .inl h
 ·exact .inr ⟨id, g, rfl, Nat.lt_of_lt_of_le h2 hn, by rw [ho id h2 (fun h => h _ _ _ _ rfl)]; exact h3⟩
theorem SlR.oth (h : SlR es ty σ L X) {i : Nat} (hi : σ.n ≤ i) : Oth X i := by
 rcases h with ⟨rfl, _⟩ | ⟨id, g, rfl, h2, _⟩
 ·exact Oth.nil i
 ·exact Oth.sl (by omega)
theorem SlR.pub (h : SlR es ty σ L X) (ho : ∀ i, i < σ.n → ¬ Oth X i → τ.ob i = σ.ob i) (hp : ∀ x ∈ L, x.pur = true) (hk : ∀ x ∈ L, okE es x) : Pub τ X (.list es L) := by
 rcases h with ⟨rfl, rfl⟩ | ⟨id, g, rfl, h2, h3⟩
 ·exact .nl es
 ·exact Pub.of_sl (by rw [ho id h2 (fun h => h _ _ _ _ rfl)]; exact h3) rfl hp hk
theorem app_slr {b : Nat} {a : AV} {K : AV → St → Prop} (h : SlR es ty σ L X) (hm : L.length + 1 ≤ 9223372036854775807) (hb : (L.length + 1) * b ≤ 140737488355328)
  (k : ∀ X' τ, SlR es ty τ (L ++ [a]) X' → Kp σ X τ X' → K X' τ) : appC es b ty X (.list es [a]) σ K := by
 rcases h with ⟨rfl, rfl⟩ | ⟨id, g, rfl, h2, h3⟩
 ·rw [jP]
  simp only [List.length_nil, Nat.zero_add] at hb
  refine ⟨by simp [maxLen], by simpa using hb, fun h => by simp at h, fun _ => k _ _ (.inr ⟨σ.n, σ.c, rfl, Nat.lt_succ_self _, by simp [St.push, upd]⟩) ⟨Nat.le_succ _, fun i hi _ => ?_, fun i hi _ => Oth.sl (by omega)⟩⟩
  simp only [St.push]; rw [upd_ne _ _ _ _ (by omega)]
 ·rw [w_app_ll]
  refine ⟨_, h3, rfl, rfl, rfl, rfl, rfl, rfl, by rw [mxL]; simpa using hm, by simpa using hb, k _ _ (.inr ⟨id, σ.c, by simp, h2, by simp [St.renew, upd]⟩) ⟨Nat.le_refl _, fun i hi hx => ?_, fun i hi hx => Oth.sl hx.ne⟩⟩
  simp only [St.renew]
  rw [upd_ne _ _ _ _ (fun e => hx.ne e.symm)]
theorem app_slrs {b : Nat} {M : List AV} {K : AV → St → Prop} (h : SlR es ty σ L X) (hm : L.length + M.length ≤ 9223372036854775807) (hb : (L.length + M.length) * b ≤ 140737488355328)
  (k : ∀ X' τ, SlR es ty τ (L ++ M) X' → Kp σ X τ X' → K X' τ) : appC es b ty X (.list es M) σ K := by
 rcases h with ⟨rfl, rfl⟩ | ⟨id, g, rfl, h2, h3⟩
 ·rw [jP]
  simp only [List.length_nil, Nat.zero_add] at hm hb
  refine ⟨by rw [mxL]; omega, hb, fun h => k _ _ (.inl ⟨rfl, by rw [h]; rfl⟩) ⟨Nat.le_refl _, fun _ _ _ => rfl, fun _ _ h => h⟩, fun _ => k _ _ (.inr ⟨σ.n, σ.c, rfl, Nat.lt_succ_self _, by simp [St.push, upd]⟩) ⟨Nat.le_succ _, fun i hi _ => ?_, fun i hi _ => Oth.sl (by omega)⟩⟩
  simp only [St.push]; rw [upd_ne _ _ _ _ (by omega)]
 ·rw [w_app_ll]
  refine ⟨_, h3, rfl, rfl, rfl, rfl, rfl, rfl, by rw [mxL]; exact hm, hb, k _ _ (.inr ⟨id, σ.c, by simp, h2, by simp [St.renew, upd]⟩) ⟨Nat.le_refl _, fun i hi hx => ?_, fun i hi hx => Oth.sl hx.ne⟩⟩
  simp only [St.renew]
  rw [upd_ne _ _ _ _ (fun e => hx.ne e.symm)]
end
inductive PubS (σ : St) : List AV → List AV → Prop
 | nil : PubS σ [] []
 | cons {a b : AV} {l r : List AV} (h : Pub σ a b) (k : PubS σ l r) : PubS σ (a :: l) (b :: r)
theorem PubS.get {σ : St} {l r : List AV} (h : PubS σ l r) : l.length = r.length ∧ ∀ (i : Nat) (x y : AV), l[i]? = some x → r[i]? = some y → Pub σ x y := by
 induction h with
 | nil => exact ⟨rfl, fun i x y h => by simp at h⟩
 | cons h k ih =>
  refine ⟨by simp [ih.1], fun i x y hx hy => ?_⟩
  cases i with
  | zero => simp at hx hy; subst hx; subst hy; exact h
  | succ i => exact ih.2 i x y (by simpa using hx) (by simpa using hy)
theorem Pub.ag {σ : St} {l r : List AV} (h : PubS σ l r) : Pub σ (.agg l) (.agg r) := .agg h.get.1 h.get.2
theorem Pub.tu {σ : St} {l r : List AV} (h : PubS σ l r) : Pub σ (.tuple l) (.tuple r) := .tuple h.get.1 h.get.2
theorem Pub.e {σ : St} {a : AV} (h : a.pur = true) : Pub σ a a := .pure h
def NlR (a b : AV) : Prop := ∀ (S : Nat → Prop) (w : World) (v : Value), VP S w a v → VP S w b v
theorem NlR.rfl {a : AV} : NlR a a := fun _ _ _ h => h
theorem NlR.nil (es : Nat) : NlR .nil (.list es []) := fun S w v h => by cases h; exact .listNil _ _ _
inductive NlRs : List AV → List AV → Prop
 | nil : NlRs [] []
 | cons {a b : AV} {l r : List AV} (h : NlR a b) (k : NlRs l r) : NlRs (a :: l) (b :: r)
theorem NlRs.get {l r : List AV} (h : NlRs l r) : l.length = r.length ∧ ∀ (j : Nat) (y : AV), r[j]? = some y → ∃ x, l[j]? = some x ∧ NlR x y := by
 induction h with
 | nil => exact ⟨Eq.refl _, fun j y h => by simp at h⟩
 | cons h k ih =>
  refine ⟨by simp [ih.1], fun j y hy => ?_⟩
  cases j with
  | zero => simp at hy; subst hy; exact ⟨_, Eq.refl _, h⟩
  | succ j => exact ih.2 j y (by simpa using hy)
theorem NlRs.refl : ∀ (l : List AV), NlRs l l
 | [] => .nil
 | _ :: l => .cons .rfl (NlRs.refl l)
theorem NlR.agg {l r : List AV} (h : NlRs l r) : NlR (.agg l) (.agg r) := fun S w v hv => by
 cases hv with
 | agg hl hh =>
  refine .agg (by rw [hl, h.get.1]) fun j y u hy hu => ?_
  obtain ⟨x, hx, hxy⟩ := h.get.2 j y hy
  exact hxy S w u (hh j x u hx hu)
theorem pc_nl {P : Program} {f : Nat} {args args' : List AV} {r : AV} (h : PC P f args' r) (k : NlRs args args') : PC P f args r :=
 ⟨h.1, fun S w vs hlt hv => h.2 S w vs hlt ⟨by rw [hv.1, k.get.1], fun j y u hy hu => by obtain ⟨x, hx, hxy⟩ := k.get.2 j y hy; exact hxy S w u (hv.2 j x u hx hu)⟩⟩
def ER (es : Nat) (σ : St) (L : List AV) (E : AV) : Prop :=
 (E = .nil ∧ L = []) ∨ E = .list es L ∨ ∃ id g off o, E = .sl id g es off L.length ∧ id < σ.n ∧ σ.ob id = some o ∧ o.g = g ∧ o.es = es ∧ off + L.length ≤ o.l.length ∧ (o.l.drop off).take L.length = L
theorem hkeep_lt {af : List Nat} {R : List (Nat × Nat)} {ob ob' : Nat → Option AObj} {n : Nat} (h : ∀ x ∈ R, x.2 < n) (k : ∀ i, i < n → ob' i = ob i) : hkeep af R ob ob' := fun x hx => .inr (k _ (h x hx))
theorem tagR_lt {p n : Nat} {l : List Nat} (h : ∀ i ∈ l, i < n) : ∀ x ∈ tagR p l, x.2 < n := fun x hx => by
 obtain ⟨i, hi, rfl⟩ := List.mem_map.1 hx
 exact h i hi
theorem app_lt {n : Nat} {R S : List (Nat × Nat)} (h : ∀ x ∈ R, x.2 < n) (k : ∀ x ∈ S, x.2 < n) : ∀ x ∈ R ++ S, x.2 < n := fun x hx => (List.mem_append.1 hx).elim (h x) (k x)
section
variable {es : Nat} {σ τ : St} {L : List AV} {E : AV}
theorem ER.of_slr {ty : TypeId} (h : SlR es ty σ L E) : ER es σ L E := by
 rcases h with h | ⟨id, g, rfl, h2, h3⟩
 ·exact .inl h
 ·exact .inr (.inr ⟨id, g, 0, _, rfl, h2, h3, rfl, rfl, by simp, by simp⟩)
theorem ER.of_sl {id g : Nat} {ty : TypeId} {ro ap : Bool} (h : σ.ob id = some ⟨g, es, ty, ro, ap, L⟩) (hn : id < σ.n) : ER es σ L (.sl id g es 0 L.length) := .inr (.inr ⟨id, g, 0, _, rfl, hn, h, rfl, rfl, by simp, by simp⟩)
theorem ER.list (es : Nat) (σ : St) (L : List AV) : ER es σ L (.list es L) := .inr (.inl rfl)
theorem ER.one (h : ER es σ L E) : E.one = true := by rcases h with ⟨rfl, _⟩ | rfl | ⟨_, _, _, _, rfl, _⟩ <;> rfl
theorem ER.flat (h : ER es σ L E) : E.flat = true := by rcases h with ⟨rfl, _⟩ | rfl | ⟨_, _, _, _, rfl, _⟩ <;> rfl
theorem ER.cells (h : ER es σ L E) : E.cells = [E] := by rcases h with ⟨rfl, _⟩ | rfl | ⟨_, _, _, _, rfl, _⟩ <;> rfl
theorem ER.oid (h : ER es σ L E) : ∀ i ∈ E.oid, i < σ.n := by
 rcases h with ⟨rfl, _⟩ | rfl | ⟨id, _, _, _, rfl, h, _⟩ <;> intro i hi
 ·cases hi
 ·cases hi
 ·obtain rfl : i = id := by simpa [AV.oid] using hi
  exact h
theorem ER.move (h : ER es σ L E) (hn : σ.n ≤ τ.n) (ho : ∀ i, i < σ.n → ¬ Oth E i → ∀ o, σ.ob i = some o → ∃ b, τ.ob i = some { o with ro := b }) : ER es τ L E := by
 rcases h with h | h | ⟨id, g, off, o, rfl, h1, h2, h3, h4, h5, h6⟩
 ·exact .inl h
 ·exact .inr (.inl h)
 ·obtain ⟨b, hb⟩ := ho id h1 (fun h => h _ _ _ _ rfl) o h2
  exact .inr (.inr ⟨id, g, off, _, rfl, Nat.lt_of_lt_of_le h1 hn, hb, h3, h4, h5, h6⟩)
theorem ER.keep (h : ER es σ L E) (hn : σ.n ≤ τ.n) (ho : ∀ i, i < σ.n → ¬ Oth E i → τ.ob i = σ.ob i) : ER es τ L E :=
 h.move hn fun i hi h2 o h3 => ⟨o.ro, by rw [ho i hi h2]; exact h3⟩
theorem ER.pub (h : ER es σ L E) (hp : ∀ x ∈ L, x.pur = true) (hk : ∀ x ∈ L, okE es x) (ho : ∀ i, i < σ.n → ¬ Oth E i → ∀ o, σ.ob i = some o → ∃ b, τ.ob i = some { o with ro := b }) : Pub τ E (.list es L) := by
 rcases h with ⟨rfl, rfl⟩ | rfl | ⟨id, g, off, o, rfl, h1, h2, h3, h4, h5, h6⟩
 ·exact .nl es
 ·exact .pure rfl
 ·obtain ⟨b, hb⟩ := ho id h1 (fun h => h _ _ _ _ rfl) o h2
  refine .sl hb h3 h4 h5 (by simp only []; rw [h6]) (fun i x y hx hy => ?_) hk
  simp only [] at hx
  rw [h6, hy] at hx
  obtain rfl := Option.some.inj hx
  exact .pure (hp _ (List.mem_of_getElem? hy))
theorem ER.len (h : ER es σ L E) {K : AV → St → Prop} (k : K (.int .i64 L.length) σ) : lenC E σ K := by
 rcases h with ⟨rfl, rfl⟩ | rfl | ⟨id, g, off, o, rfl, _⟩
 ·simpa [lenC] using k
 ·simpa [lenC] using k
 ·simpa [lenC] using k
theorem ER.drop {K : AV → St → Prop} {kd : IntKind} {lo : Int} {k : Nat} (h : ER es σ L E) (hlo : lo = k) (hk : k ≤ L.length) (f : ∀ E', ER es σ (L.drop k) E' → (∀ i, Oth E i → Oth E' i) → K E' σ) : slcC es E (some (.int kd lo)) none σ K := by
 subst hlo
 rcases h with ⟨rfl, rfl⟩ | rfl | ⟨id, g, off, o, rfl, h1, h2, h3, h4, h5, h6⟩
 ·obtain rfl : k = 0 := by simpa using hk
  exact ⟨by simp, by simp, f _ (.inl ⟨rfl, rfl⟩) fun _ h => h⟩
 ·refine ⟨rfl, by omega, by simpa using hk, ?_⟩
  show K (.list es ((L.take L.length).drop (k : Int).toNat)) σ
  rw [List.take_length, Int.toNat_natCast]
  exact f _ (.inr (.inl rfl)) fun _ _ _ _ _ _ h => (by cases h)
 ·refine ⟨rfl, ⟨_, h2, h3⟩, by omega, by simpa using hk, ?_⟩
  show ((k : Int).toNat = L.length → K (.list es []) σ) ∧ ((k : Int).toNat < L.length → K (.sl id g es (off + (k : Int).toNat) (L.length - (k : Int).toNat)) σ)
  rw [Int.toNat_natCast]
  refine ⟨fun h => f _ (.inr (.inl ?_)) fun _ _ _ _ _ _ h => (by cases h), fun h => f _ (.inr (.inr ⟨id, g, off + k, o, by simp, h1, h2, h3, h4, by simp; omega, ?_⟩)) fun i hi => Oth.sl (Oth.ne hi)⟩
  ·rw [h, List.drop_length]
  ·have := congrArg (List.drop k) h6
   rw [← this]
   simp [List.drop_take, Nat.min_eq_left (show L.length - k ≤ o.l.length - (off + k) by omega)]
theorem ER.take {K : AV → St → Prop} {kd : IntKind} {hi : Int} {k : Nat} (h : ER es σ L E) (hhi : hi = k) (hk : k ≤ L.length) (f : ∀ E', ER es σ (L.take k) E' → (∀ i, Oth E i → Oth E' i) → K E' σ) : slcC es E none (some (.int kd hi)) σ K := by
 subst hhi
 rcases h with ⟨rfl, rfl⟩ | rfl | ⟨id, g, off, o, rfl, h1, h2, h3, h4, h5, h6⟩
 ·obtain rfl : k = 0 := by simpa using hk
  exact ⟨by simp, by simp, f _ (.inl ⟨rfl, rfl⟩) fun _ h => h⟩
 ·refine ⟨rfl, by omega, by simpa using hk, ?_⟩
  show K (.list es ((L.take (k : Int).toNat).drop 0)) σ
  rw [List.drop_zero, Int.toNat_natCast]
  exact f _ (.inr (.inl rfl)) fun _ _ _ _ _ _ h => (by cases h)
 ·refine ⟨rfl, ⟨_, h2, h3⟩, by omega, by simpa using hk, ?_⟩
  show (0 = (k : Int).toNat → K (.list es []) σ) ∧ (0 < (k : Int).toNat → K (.sl id g es off (k : Int).toNat) σ)
  rw [Int.toNat_natCast]
  refine ⟨fun h => f _ (.inr (.inl ?_)) fun _ _ _ _ _ _ h => (by cases h), fun h => f _ (.inr (.inr ⟨id, g, off, o, by simp [Nat.min_eq_left hk], h1, h2, h3, h4, by simp; omega, ?_⟩)) fun i hi => Oth.sl (Oth.ne hi)⟩
  ·rw [← h]; simp
  ·have := congrArg (List.take k) h6
   rw [← this]
   simp [List.take_take, Nat.min_eq_left (show min k L.length ≤ o.l.length - off by omega)]
theorem ER.at (h : ER es σ L E) {k : Nat} (hk : k < L.length) : E = .list es L ∨ ∃ id g off o, E = .sl id g es off L.length ∧ id < σ.n ∧ σ.ob id = some o ∧ o.g = g ∧ o.es = es ∧ off + L.length ≤ o.l.length ∧ o.l[off + k]? = L[k]? := by
 rcases h with ⟨rfl, rfl⟩ | rfl | ⟨id, g, off, o, rfl, h1, h2, h3, h4, h5, h6⟩
 ·simp at hk
 ·exact .inl rfl
 ·refine .inr ⟨id, g, off, o, rfl, h1, h2, h3, h4, h5, ?_⟩
  have := congrArg (fun z => z[k]?) h6
  simp only [List.getElem?_take, if_pos hk, List.getElem?_drop] at this
  exact this
theorem app_er {b : Nat} {ty : TypeId} {X : AV} {K : AV → St → Prop} (h : ER es σ L E) (k : appC es b ty X (.list es L) σ K) : appC es b ty X E σ K := by
 rcases h with ⟨rfl, rfl⟩ | rfl | ⟨id, g, off, o, rfl, h1, h2, h3, h4, h5, h6⟩
 ·obtain ⟨_, _, k⟩ := k
  exact ⟨fun _ _ h => (by cases h), fun _ _ _ _ _ h => (by rcases h with h | ⟨_, h⟩ <;> cases h), k⟩
 ·exact k
 ·obtain ⟨_, _, k⟩ := k
  refine ⟨fun _ _ h => (by cases h), fun _ _ _ _ _ h => (by rcases h with h | ⟨_, h⟩ <;> cases h; rfl), o, h2, h3, h4, h5, ?_⟩
  rw [h6]
  exact k
end
def fewB (t : List Int) : Bool := decide ((t.length : Int) ≤ 500)
theorem ok_mk_Few (t : List Int) : PC prog n_mk_Few [.list 1 (ints t)] (.bool (fewB t)) := by
 refine PC_of_body b_mk_Few (by simp) ?_
 simp only [c_mk_Few, go_sem, jA, jB, jC, jD, jE, jF, jG, jH, jI, jJ, ↓reduceIte, reduceCtorEq, jP, ints_length]
 exact Pub.of_eq rfl rfl
theorem eq_of_get {α : Type} {a b : List α} (hl : a.length = b.length) (h : ∀ j, j < a.length → a[j]? = b[j]?) : a = b := by
 apply List.ext_getElem? ; intro j
 by_cases hj : j < a.length
 ·exact h j hj
 ·rw [List.getElem?_eq_none (by omega), List.getElem?_eq_none (by omega)]
theorem shInts {c : List AV} (h : (Sh.slice 1 (.int .i64)).R c) : ∃ L : List Int, c = [.list 1 (ints L)] ∧ L.length ≤ 9223372036854775807 ∧ ∀ n ∈ L, (Lit.int .i64 n).wf = true := by
 obtain ⟨xs, rfl, hl, h⟩ := h
 obtain ⟨L, rfl, hL⟩ := exists_map (f := AV.int .i64) (Q := fun n => (Lit.int .i64 n).wf = true) fun x hx => by
  obtain ⟨cs, hr, _, rfl⟩ := h x hx
  obtain ⟨a, rfl, ha⟩ := hr
  exact ⟨a, ha, rfl⟩
 exact ⟨L, rfl, by simpa using hl, hL⟩
theorem wf_u8 {n : Int} (h : (Lit.int .u8 n).wf = true) : 0 ≤ n ∧ n ≤ 255 := by
 simp [Lit.wf, IntKind.min, IntKind.max, IntKind.signed, IntKind.bits] at h; omega
def sb (s : ByteArray) : List Int := s.data.toList.map fun b => (b.toNat : Int)
theorem sb_length (s : ByteArray) : (sb s).length = s.size := by simp [sb]
theorem sb_bd (s : ByteArray) : ∀ x ∈ sb s, 0 ≤ x ∧ x ≤ 255 := by
 intro x hx
 obtain ⟨b, _, rfl⟩ := List.mem_map.1 hx
 have := b.toNat_lt
 omega
theorem sb_getD_bd (s : ByteArray) (i : Nat) : 0 ≤ (sb s).getD i 0 ∧ (sb s).getD i 0 ≤ 255 := by
 rw [List.getD_eq_getElem?_getD]
 by_cases h : i < (sb s).length
 ·rw [List.getElem?_eq_getElem h]; exact sb_bd s _ (List.getElem_mem h)
 ·rw [List.getElem?_eq_none (by omega)]; simp
theorem sidx_eq (s : ByteArray) (a : Int) (h0 : 0 ≤ a) (h1 : a < s.size) : (if 0 ≤ a then (s[a.toNat]?).map fun b => AV.int .u8 b.toNat else none) = some (.int .u8 ((sb s).getD a.toNat 0)) := by
 rw [if_pos h0]
 have h : a.toNat < s.size := by omega
 rw [getElem?_pos s a.toNat h]
 simp only [Option.map_some, Option.some.injEq, AV.int.injEq, true_and]
 rw [List.getD_eq_getElem?_getD, List.getElem?_eq_getElem (by rw [sb_length]; exact h)]
 simp [sb]
 rfl
theorem sidxN (s : ByteArray) (k : Nat) (h1 : k < s.size) : (if 0 ≤ (k : Int) then Option.map (fun b => AV.int .u8 ↑b.toNat) s[k]? else none) = some (.int .u8 ((sb s).getD k 0)) := by
 have := sidx_eq s k (by omega) (by omega)
 simpa using this
theorem bit_shl8 (x : Int) (h0 : 0 ≤ x) (h1 : x ≤ 1125899906842624) : bitD .shl .i64 x .u64 8 = some (.int .i64 (x * 256)) := by
 simp only [bitD, IntKind.bits]
 rw [if_pos (by omega)]
 have : (2 : Int) ^ min (8 : Int).toNat 64 = 256 := by decide
 rw [this, jO (by omega) (by omega)]
theorem bit_shr8 (x : Int) : bitD .shr .i64 x .u64 8 = some (.int .i64 (x / 256)) := by
 simp only [bitD, IntKind.bits]
 rw [if_pos (by omega)]
 have : (2 : Int) ^ min (8 : Int).toNat 64 = 256 := by decide
 rw [this, Int.fdiv_eq_ediv_of_nonneg _ (by omega)]
theorem bit_or8 (x b : Int) (h0 : 0 ≤ x) (h1 : x ≤ 1125899906842624) (h2 : 0 ≤ b) (h3 : b ≤ 255) : bitD .or .i64 (x * 256) .i64 b = some (.int .i64 (x * 256 + b)) := by
 show some (AV.int .i64 (IntKind.i64.wrap ((BitVec.ofInt 64 (x * 256) ||| BitVec.ofInt 64 b : BitVec 64).toNat))) = _
 have e1 : (BitVec.ofInt 64 (x * 256)).toNat = 2 ^ 8 * x.toNat := by rw [BitVec.toNat_ofInt]; omega
 have e2 : (BitVec.ofInt 64 b).toNat = b.toNat := by rw [BitVec.toNat_ofInt]; omega
 rw [BitVec.toNat_or, e1, e2, ← Nat.two_pow_add_eq_or_of_lt (by omega : b.toNat < 2 ^ 8)]
 rw [jO (by omega) (by omega)]
 congr 2
 omega
theorem wrap_u8 (n : Int) : IntKind.u8.wrap n = n % 256 := by simp [IntKind.wrap, IntKind.bits, IntKind.signed]
def sumGo : List Int → Int → Int → Int × Int
 | [], a, b => (a, b)
 | x :: r, a, b => sumGo r ((a + x) % 65521) ((b + (a + x) % 65521) % 65521)
def sumS (s : ByteArray) : Int := 65536 * (sumGo (sb s) 1 0).2 + (sumGo (sb s) 1 0).1
theorem drop_getD (l : List Int) (k : Nat) (h : k < l.length) : l.drop k = l.getD k 0 :: l.drop (k + 1) := by
 rw [List.drop_eq_getElem_cons h, List.getD_eq_getElem?_getD, List.getElem?_eq_getElem h]; rfl
theorem ok_telemetry_Sum (s : ByteArray) (hs : s.size ≤ 9223372036854775807) : PC prog n_telemetry_Sum [.str s] (.int .i64 (sumS s)) := by
 refine PC_of_body b_telemetry_Sum (by simp) ?_
 simp only [c_telemetry_Sum, go_sem, jA, jB, jC, jD, jE, jF, jG, jH, jI, jJ, ↓reduceIte, reduceCtorEq, jP]
 refine awp_upF [3, 4, 5, 8, 9, 10, 11, 12, 13, 14, 15, 16, 17, 18, 19, 20, 21, 22] (by kernel_rfl) s.size (fun k e _ => ∃ a b, e 8 = .int .i64 k ∧ e 3 = .int .i64 a ∧ e 4 = .int .i64 b ∧ 0 ≤ a ∧ a < 65521 ∧ 0 ≤ b ∧ b < 65521 ∧ sumGo (sb s) 1 0 = sumGo ((sb s).drop k) a b) ?_ ?_
 ·exact ⟨1, 0, (by first | rfl | (simp (disch := omega) only [go_sem, jA, jB, jC, jD, jE, jF, jG, jH, jI, jJ, ↓reduceIte, reduceCtorEq, jP, jO, jM, jN]; try rfl)), (by first | rfl | (simp (disch := omega) only [go_sem, jA, jB, jC, jD, jE, jF, jG, jH, jI, jJ, ↓reduceIte, reduceCtorEq, jP, jO, jM, jN]; try rfl)), (by first | rfl | (simp (disch := omega) only [go_sem, jA, jB, jC, jD, jE, jF, jG, jH, jI, jJ, ↓reduceIte, reduceCtorEq, jP, jO, jM, jN]; try rfl)), by omega, by omega, by omega, by omega, by simp⟩
 ·rintro k fe ob c hk ⟨a, b, h8, h3, h4, a0, a1, b0, b1, hgo⟩
  simp (maxSteps := 1000000) only [go_sem, jA, jB, jC, jD, jE, jF, jG, jH, jI, jJ, ↓reduceIte, reduceCtorEq, jP] at h8 h3 h4
  simp (maxSteps := 1000000) only [go_sem, jA, jB, jC, jD, jE, jF, jG, jH, jI, jJ, ↓reduceIte, reduceCtorEq, jP, h8]
  refine cond_d (fun hlt => ?_) (fun hge => ?_)
  ·have hks : k < s.size := by omega
   rw [drop_getD _ _ (by rw [sb_length]; exact hks), sumGo] at hgo
   have hx := sb_getD_bd s k
   simp (maxSteps := 1000000) (disch := omega) only [go_sem, jA, jB, jC, jD, jE, jF, jG, jH, jI, jJ, ↓reduceIte, reduceCtorEq, jP, jO, h8, h3, h4, sidx_eq]
   refine ⟨_, sidxN s k hks, ?_⟩
   generalize (sb s).getD k 0 = x at *
   simp (maxSteps := 1000000) (disch := omega) only [go_sem, jA, jB, jC, jD, jE, jF, jG, jH, jI, jJ, ↓reduceIte, reduceCtorEq, jP, jO, h8, h3, h4]
   repeat (refine And.intro (by first | omega | (rw [mxL]; omega) | (simp [maxLen]; done) | (simp [maxLen]; omega)) ?_)
   rw [Int.tmod_eq_emod_of_nonneg (by omega : 0 ≤ a + x)]
   generalize hp : (a + x) % 65521 = p at *
   have hp0 : 0 ≤ p := by omega
   simp (maxSteps := 1000000) (disch := omega) only [go_sem, jA, jB, jC, jD, jE, jF, jG, jH, jI, jJ, ↓reduceIte, reduceCtorEq, jP, jO, h8, h3, h4]
   repeat (refine And.intro (by first | omega | (rw [mxL]; omega) | (simp [maxLen]; done) | (simp [maxLen]; omega)) ?_)
   rw [Int.tmod_eq_emod_of_nonneg (by omega : 0 ≤ b + p)]
   try simp (maxSteps := 1000000) (disch := omega) only [go_sem, jA, jB, jC, jD, jE, jF, jG, jH, jI, jJ, ↓reduceIte, reduceCtorEq, jP, jO, h8]
   refine up_next hks ⟨p, (b + p) % 65521, (by first | rfl | (simp (disch := omega) only [go_sem, jA, jB, jC, jD, jE, jF, jG, jH, jI, jJ, ↓reduceIte, reduceCtorEq, jP, jO, jM, jN]; try rfl)), (by first | rfl | (simp (disch := omega) only [go_sem, jA, jB, jC, jD, jE, jF, jG, jH, jI, jJ, ↓reduceIte, reduceCtorEq, jP, jO, jM, jN]; try rfl)), (by first | rfl | (simp (disch := omega) only [go_sem, jA, jB, jC, jD, jE, jF, jG, jH, jI, jJ, ↓reduceIte, reduceCtorEq, jP, jO, jM, jN]; try rfl)), by omega, by omega, by omega, by omega, hgo⟩
  ·rw [List.drop_of_length_le (by rw [sb_length]; omega), sumGo] at hgo
   simp (maxSteps := 1000000) (disch := omega) only [go_sem, jA, jB, jC, jD, jE, jF, jG, jH, jI, jJ, ↓reduceIte, reduceCtorEq, jP, jO, h3, h4]
   exact Pub.of_eq (by rw [sumS, hgo]) rfl
theorem ok_ref28_Sum (s : ByteArray) (hs : s.size ≤ 9223372036854775807) : PC prog n_ref28_Sum [.str s] (.int .i64 (sumS s)) := by
 refine PC_of_body b_ref28_Sum (by simp) ?_
 simp only [c_ref28_Sum, go_sem, jA, jB, jC, jD, jE, jF, jG, jH, jI, jJ, ↓reduceIte, reduceCtorEq, jP]
 refine awp_upF [3, 4, 5, 6, 7, 8, 9, 10, 11, 12, 13, 14, 15, 16, 17, 18, 19, 20, 21, 22] (by kernel_rfl) s.size (fun k e _ => ∃ a b, e 5 = .int .i64 k ∧ e 3 = .int .i64 a ∧ e 4 = .int .i64 b ∧ 0 ≤ a ∧ a < 65521 ∧ 0 ≤ b ∧ b < 65521 ∧ sumGo (sb s) 1 0 = sumGo ((sb s).drop k) a b) ?_ ?_
 ·exact ⟨1, 0, (by first | rfl | (simp (disch := omega) only [go_sem, jA, jB, jC, jD, jE, jF, jG, jH, jI, jJ, ↓reduceIte, reduceCtorEq, jP, jO, jM, jN]; try rfl)), (by first | rfl | (simp (disch := omega) only [go_sem, jA, jB, jC, jD, jE, jF, jG, jH, jI, jJ, ↓reduceIte, reduceCtorEq, jP, jO, jM, jN]; try rfl)), (by first | rfl | (simp (disch := omega) only [go_sem, jA, jB, jC, jD, jE, jF, jG, jH, jI, jJ, ↓reduceIte, reduceCtorEq, jP, jO, jM, jN]; try rfl)), by omega, by omega, by omega, by omega, by simp⟩
 ·rintro k fe ob c hk ⟨a, b, h5, h3, h4, a0, a1, b0, b1, hgo⟩
  simp (maxSteps := 1000000) only [go_sem, jA, jB, jC, jD, jE, jF, jG, jH, jI, jJ, ↓reduceIte, reduceCtorEq, jP] at h5 h3 h4
  simp (maxSteps := 1000000) only [go_sem, jA, jB, jC, jD, jE, jF, jG, jH, jI, jJ, ↓reduceIte, reduceCtorEq, jP, h5]
  refine cond_d (fun hlt => ?_) (fun hge => ?_)
  ·have hks : k < s.size := by omega
   rw [drop_getD _ _ (by rw [sb_length]; exact hks), sumGo] at hgo
   have hx := sb_getD_bd s k
   simp (maxSteps := 1000000) (disch := omega) only [go_sem, jA, jB, jC, jD, jE, jF, jG, jH, jI, jJ, ↓reduceIte, reduceCtorEq, jP, jO, h5, h3, h4]
   refine ⟨_, sidxN s k hks, ?_⟩
   generalize (sb s).getD k 0 = x at *
   simp (maxSteps := 1000000) (disch := omega) only [go_sem, jA, jB, jC, jD, jE, jF, jG, jH, jI, jJ, ↓reduceIte, reduceCtorEq, jP, jO, h5, h3, h4]
   repeat (refine And.intro (by first | omega | (rw [mxL]; omega) | (simp [maxLen]; done) | (simp [maxLen]; omega)) ?_)
   rw [Int.tmod_eq_emod_of_nonneg (by omega : 0 ≤ a + x)]
   generalize hp : (a + x) % 65521 = p at *
   have hp0 : 0 ≤ p := by omega
   simp (maxSteps := 1000000) (disch := omega) only [go_sem, jA, jB, jC, jD, jE, jF, jG, jH, jI, jJ, ↓reduceIte, reduceCtorEq, jP, jO, h5, h3, h4]
   repeat (refine And.intro (by first | omega | (rw [mxL]; omega) | (simp [maxLen]; done) | (simp [maxLen]; omega)) ?_)
   rw [Int.tmod_eq_emod_of_nonneg (by omega : 0 ≤ b + p)]
   try simp (maxSteps := 1000000) (disch := omega) only [go_sem, jA, jB, jC, jD, jE, jF, jG, jH, jI, jJ, ↓reduceIte, reduceCtorEq, jP, jO, h5]
   refine up_next hks ⟨p, (b + p) % 65521, (by first | rfl | (simp (disch := omega) only [go_sem, jA, jB, jC, jD, jE, jF, jG, jH, jI, jJ, ↓reduceIte, reduceCtorEq, jP, jO, jM, jN]; try rfl)), (by first | rfl | (simp (disch := omega) only [go_sem, jA, jB, jC, jD, jE, jF, jG, jH, jI, jJ, ↓reduceIte, reduceCtorEq, jP, jO, jM, jN]; try rfl)), (by first | rfl | (simp (disch := omega) only [go_sem, jA, jB, jC, jD, jE, jF, jG, jH, jI, jJ, ↓reduceIte, reduceCtorEq, jP, jO, jM, jN]; try rfl)), by omega, by omega, by omega, by omega, hgo⟩
  ·rw [List.drop_of_length_le (by rw [sb_length]; omega), sumGo] at hgo
   simp (maxSteps := 1000000) (disch := omega) only [go_sem, jA, jB, jC, jD, jE, jF, jG, jH, jI, jJ, ↓reduceIte, reduceCtorEq, jP, jO, h3, h4]
   exact Pub.of_eq (by rw [sumS, hgo]) rfl
def getL : List Int → Int
 | [] => 0
 | x :: r => x + 256 * getL r
theorem getL_bd : ∀ (l : List Int), (∀ x ∈ l, 0 ≤ x ∧ x ≤ 255) → 0 ≤ getL l ∧ getL l < 256 ^ l.length
 | [], _ => by simp [getL]
 | x :: r, h => by
  have h1 := h x (by simp)
  obtain ⟨h2, h3⟩ := getL_bd r fun y hy => h y (by simp [hy])
  simp only [getL, List.length_cons, Int.pow_succ]
  omega
theorem pow256 (n : Nat) (h : n ≤ 4) : (256 : Int) ^ n ≤ 4294967296 := by
 have : n = 0 ∨ n = 1 ∨ n = 2 ∨ n = 3 ∨ n = 4 := by omega
 rcases this with rfl | rfl | rfl | rfl | rfl <;> decide
theorem ok_ref28_Get (s : ByteArray) (at' size : Nat) (hs : s.size ≤ 4611686018427387904) (h : at' + size ≤ s.size) (h5 : size ≤ 5) : PC prog n_ref28_Get [.str s, .int .i64 at', .int .i64 size] (.int .i64 (getL (((sb s).drop at').take size))) := by
 refine PC_of_body b_ref28_Get (by simp) ?_
 simp (disch := omega) only [c_ref28_Get, go_sem, jA, jB, jC, jD, jE, jF, jG, jH, jI, jJ, ↓reduceIte, reduceCtorEq, jP, jO]
 refine awp_upF [7, 8, 11, 12, 13, 14, 15, 16, 17, 18, 19, 20, 21, 22, 23] (by kernel_rfl) size (fun r e _ => e 8 = .int .i64 ((size : Int) - 1 - r) ∧ e 7 = .int .i64 (getL ((((sb s).drop at').take size).drop (size - r)))) ?_ ?_
 ·refine ⟨by simp [go_sem], ?_⟩
  try simp (maxSteps := 1000000) only [go_sem, jA, jB, jC, jD, jE, jF, jG, jH, jI, jJ, ↓reduceIte, reduceCtorEq, jP]
  rw [List.drop_of_length_le (by simp; omega)]; rfl
 ·rintro r fe ob c hr ⟨h8, h7⟩
  simp (maxSteps := 1000000) only [go_sem, jA, jB, jC, jD, jE, jF, jG, jH, jI, jJ, ↓reduceIte, reduceCtorEq, jP] at h8 h7
  simp (maxSteps := 1000000) only [go_sem, jA, jB, jC, jD, jE, jF, jG, jH, jI, jJ, ↓reduceIte, reduceCtorEq, jP, h8]
  refine cond_d (fun hlt => ?_) (fun hge => ?_)
  ·have hrs : r < size := by omega
   generalize hi : size - 1 - r = i at *
   have hi2 : size - r = i + 1 := by omega
   have hii : (size : Int) - 1 - r = (i : Int) := by omega
   have hnx : getL ((((sb s).drop at').take size).drop (size - (r + 1))) = (sb s).getD (at' + i) 0 + 256 * getL ((((sb s).drop at').take size).drop (i + 1)) := by
    rw [show size - (r + 1) = i by omega, drop_getD _ _ (by simp [sb_length]; omega), getL]
    congr 1
    rw [List.getD_eq_getElem?_getD, List.getD_eq_getElem?_getD, List.getElem?_take, if_pos (by omega), List.getElem?_drop]
   have hb := getL_bd ((((sb s).drop at').take size).drop (i + 1)) (fun x hx => sb_bd s x (List.mem_of_mem_drop (List.mem_of_mem_take (List.mem_of_mem_drop hx))))
   have hlen : ((((sb s).drop at').take size).drop (i + 1)).length ≤ 4 := by simp [sb_length]; omega
   have hb2 := pow256 _ hlen
   rw [hi2] at h7
   generalize getL ((((sb s).drop at').take size).drop (i + 1)) = y at *
   have hx := sb_getD_bd s (at' + i)
   simp only [hii] at h8 ⊢
   simp (maxSteps := 1000000) (disch := omega) only [go_sem, jA, jB, jC, jD, jE, jF, jG, jH, jI, jJ, ↓reduceIte, reduceCtorEq, jP, jO, h8, h7, bit_shl8, Option.some.injEq, exists_eq_left']
   have hsi := sidx_eq s ((at' : Int) + (i : Int)) (by omega) (by omega)
   rw [show ((at' : Int) + (i : Int)).toNat = at' + i by omega] at hsi
   simp only [show ((at' : Int) + (i : Int)).toNat = at' + i by omega]
   refine ⟨_, hsi, ?_⟩
   generalize (sb s).getD (at' + i) 0 = x at *
   simp (maxSteps := 1000000) (disch := omega) only [go_sem, jA, jB, jC, jD, jE, jF, jG, jH, jI, jJ, ↓reduceIte, reduceCtorEq, jP, jO, h8, h7, bit_or8, Option.some.injEq, exists_eq_left']
   repeat (refine And.intro (by first | omega | (rw [mxL]; omega) | (simp [maxLen]; done) | (simp [maxLen]; omega)) ?_)
   refine up_next hrs ⟨?_, ?_⟩
   ·(try simp (maxSteps := 1000000) only [go_sem, jA, jB, jC, jD, jE, jF, jG, jH, jI, jJ, ↓reduceIte, reduceCtorEq, jP]); congr 1; omega
   ·simp (maxSteps := 1000000) only [go_sem, jA, jB, jC, jD, jE, jF, jG, jH, jI, jJ, ↓reduceIte, reduceCtorEq, jP, hnx]
    congr 1; omega
  ·simp (maxSteps := 1000000) only [go_sem, jA, jB, jC, jD, jE, jF, jG, jH, jI, jJ, ↓reduceIte, reduceCtorEq, jP, h7]
   rw [show size - r = 0 by omega]
   exact Pub.of_eq rfl rfl
def bs (l : List Int) : ByteArray := ⟨(l.map fun n => UInt8.ofNat n.toNat).toArray⟩
def putB (n : Int) : Nat → List Int
 | 0 => []
 | k + 1 => (n % 256) :: putB (n / 256) k
theorem putB_snoc : ∀ (k : Nat) (n : Int), putB n (k + 1) = putB n k ++ [(n / 256 ^ k) % 256]
 | 0, n => by simp [putB]
 | k + 1, n => by
  rw [putB, putB_snoc k (n / 256)]
  simp only [putB, List.cons_append]
  rw [Int.ediv_ediv_of_nonneg (by omega : (0:Int) ≤ 256), Int.pow_succ, Int.mul_comm]
theorem putB_length : ∀ (k : Nat) (n : Int), (putB n k).length = k
 | 0, n => rfl
 | k + 1, n => by simp [putB, putB_length k]
theorem putB_bd : ∀ (k : Nat) (n : Int), ∀ x ∈ putB n k, 0 ≤ x ∧ x ≤ 255
 | 0, n, x, h => by simp [putB] at h
 | k + 1, n, x, h => by
  simp only [putB, List.mem_cons] at h
  rcases h with rfl | h
  ·omega
  ·exact putB_bd k _ x h
theorem bs_append (a b : List Int) : bs (a ++ b) = bs a ++ bs b := by
 simp only [bs, List.map_append]
 apply ByteArray.ext
 simp
theorem sb_bs (l : List Int) (h : ∀ x ∈ l, 0 ≤ x ∧ x ≤ 255) : sb (bs l) = l := by
 simp only [sb, bs, List.map_map]
 rw [List.map_congr_left (g := id) fun x hx => ?_, List.map_id]
 have := h x hx
 simp only [Function.comp, id, UInt8.toNat_ofNat']
 omega
theorem sb_append (a b : ByteArray) : sb (a ++ b) = sb a ++ sb b := by
 simp [sb]
theorem ok_ref28_Put (s : ByteArray) (n : Int) (k : Nat) (hs : s.size ≤ 1000000) (hk : k ≤ 5) : PC prog n_ref28_Put [.str s, .int .i64 n, .int .i64 k] (.str (s ++ bs (putB n k))) := by
 refine PC_of_body b_ref28_Put (by simp) ?_
 simp only [c_ref28_Put, go_sem, jA, jB, jC, jD, jE, jF, jG, jH, jI, jJ, ↓reduceIte, reduceCtorEq, jP]
 refine awp_upF [0, 1, 2, 7, 8, 9, 10, 11, 12, 13, 14, 15, 16, 17, 18] (by kernel_rfl) k (fun r e _ => e 2 = .int .i64 ((k : Int) - r) ∧ e 1 = .int .i64 (n / 256 ^ r) ∧ e 0 = .str (s ++ bs (putB n r))) ?_ ?_
 ·refine ⟨by simp [go_sem], by simp [go_sem], ?_⟩
  try simp (maxSteps := 1000000) only [go_sem, jA, jB, jC, jD, jE, jF, jG, jH, jI, jJ, ↓reduceIte, reduceCtorEq, jP]
  congr 1
  apply ByteArray.ext
  simp [bs, putB]
 ·rintro r fe ob c hr ⟨h2, h1, h0⟩
  simp (maxSteps := 1000000) only [go_sem, jA, jB, jC, jD, jE, jF, jG, jH, jI, jJ, ↓reduceIte, reduceCtorEq, jP] at h2 h1 h0
  simp (maxSteps := 1000000) only [go_sem, jA, jB, jC, jD, jE, jF, jG, jH, jI, jJ, ↓reduceIte, reduceCtorEq, jP, h2]
  refine cond_d (fun hlt => ?_) (fun hge => ?_)
  ·have hrk : r < k := by omega
   simp (maxSteps := 1000000) (disch := omega) only [go_sem, jA, jB, jC, jD, jE, jF, jG, jH, jI, jJ, ↓reduceIte, reduceCtorEq, jP, jO, h2, h1, h0, bit_shr8, Option.some.injEq, exists_eq_left']
   refine ⟨[UInt8.ofNat (IntKind.u8.wrap (n / 256 ^ r)).toNat], rfl, ?_, up_next hrk ⟨?_, ?_, ?_⟩⟩
   ·have : (bs (putB n r)).size = r := by rw [← sb_length, sb_bs _ (putB_bd _ _), putB_length]
    rw [this]; simp; omega
   ·(try simp (maxSteps := 1000000) only [go_sem, jA, jB, jC, jD, jE, jF, jG, jH, jI, jJ, ↓reduceIte, reduceCtorEq, jP]); congr 1; omega
   ·(try simp (maxSteps := 1000000) only [go_sem, jA, jB, jC, jD, jE, jF, jG, jH, jI, jJ, ↓reduceIte, reduceCtorEq, jP]); rw [Int.ediv_ediv_of_nonneg (Int.pow_nonneg (by omega)), Int.pow_succ]
   ·try simp (maxSteps := 1000000) only [go_sem, jA, jB, jC, jD, jE, jF, jG, jH, jI, jJ, ↓reduceIte, reduceCtorEq, jP]
    rw [putB_snoc, bs_append, ← ByteArray.append_assoc, wrap_u8]
    rfl
  ·have : r = k := by omega
   subst this
   simp (maxSteps := 1000000) only [go_sem, jA, jB, jC, jD, jE, jF, jG, jH, jI, jJ, ↓reduceIte, reduceCtorEq, jP, h0]
   exact Pub.of_eq rfl rfl
def At (e : Nat → AV) (i : Nat) (X : AV) : Prop := e i = X
theorem tr_ob {ob : Nat → Option AObj} {n c i : Nat} (h : i < n) : ((⟨ob, n, c⟩ : St).trunc n).ob i = ob i := by simp only [St.trunc, if_pos h]
theorem SlR.tr {es : Nat} {ty : TypeId} {ob : Nat → Option AObj} {n c : Nat} {L : List AV} {X : AV} (h : SlR es ty ⟨ob, n, c⟩ L X) : SlR es ty ((⟨ob, n, c⟩ : St).trunc n) L X :=
 h.move (by simp only [St.trunc]; omega) fun i hi _ => by simp only at hi; simp only [St.trunc, if_pos hi]
theorem PC.nl {P : Program} {f : Nat} {args : List AV} {r r' : AV} (h : PC P f args r) (k : NlR r r') : PC P f args r' :=
 ⟨h.1, fun S w vs hS hv => (h.2 S w vs hS hv).mono fun x w' ⟨v, S', h1, h2, h3, h4, h5⟩ => ⟨v, S', h1, h2, h3, h4, k S' w' v h5⟩⟩
theorem take_snocA {α : Type} (l : List α) (k : Nat) (h : k < l.length) : l.take (k + 1) = l.take k ++ [l[k]] := by
 rw [List.take_add_one, List.getElem?_eq_getElem h]; rfl
def u8s (l : List Int) : List AV := l.map (.int .u8)
theorem u8s_length (l : List Int) : (u8s l).length = l.length := by simp [u8s]
theorem u8s_snoc (l : List Int) (n : Int) : u8s l ++ [.int .u8 n] = u8s (l ++ [n]) := by simp [u8s]
theorem bytesL_u8 : ∀ (l : List Int), bytesL (u8s l) = some (l.map fun n => UInt8.ofNat n.toNat)
 | [] => rfl
 | x :: l => by simp only [u8s, List.map_cons, bytesL]; rw [show List.map (AV.int .u8) l = u8s l from rfl, bytesL_u8 l]; rfl
structure Rc where
 k : Int
 num : Int
 acc : Int
 fld : Int
 tm : Int
 lo : Int
 hi : Int
 did : Int
 site : Int
 fr : Int
 to : Int
 rel : Int
 sg : List Int
 wd : Bool
 per : Int
 code : Int
 time : Int
 onum : Int
 okind : Int
 oidx : Int
 oval : Int
 deriving DecidableEq
def rc0 (k : Int) : Rc := ⟨k, 0, 0, 0, 0, 0, 0, 0, 0, 0, 0, 0, [], false, 0, 0, 0, 0, 0, 0, 0⟩
def rcells (E : AV) (r : Rc) : List AV := [.int .i64 r.k, .int .i64 r.num, .int .i64 r.acc, .int .i64 r.fld, .int .i64 r.tm, .int .i64 r.lo, .int .i64 r.hi, .int .i64 r.did, .int .i64 r.site, .int .i64 r.fr, .int .i64 r.to, .int .i64 r.rel,
 E, .bool r.wd, .int .i64 r.per, .int .i64 r.code, .int .i64 r.time, .int .i64 r.onum, .int .i64 r.okind, .int .i64 r.oidx, .int .i64 r.oval]
def rcX (E : AV) (r : Rc) : AV := .agg (rcells E r)
def rcv (r : Rc) : AV := rcX (.list 1 (ints r.sg)) r
def rcs (l : List Rc) : List AV := l.map rcv
def cI (r : Rc) : Nat → Int
 | 1 => r.num | 2 => r.acc | 3 => r.fld | 4 => r.tm | 5 => r.lo | 6 => r.hi | 7 => r.did | 8 => r.site | 9 => r.fr | 10 => r.to | 11 => r.rel
 | 14 => r.per | 15 => r.code | 16 => r.time | 17 => r.onum | 18 => r.okind | 19 => r.oidx | 20 => r.oval | _ => r.k
def sI (r : Rc) (o : Nat) (v : Int) : Rc := match o with
 | 1 => { r with num := v } | 2 => { r with acc := v } | 3 => { r with fld := v } | 4 => { r with tm := v } | 5 => { r with lo := v } | 6 => { r with hi := v } | 7 => { r with did := v }
 | 8 => { r with site := v } | 9 => { r with fr := v } | 10 => { r with to := v } | 11 => { r with rel := v } | 14 => { r with per := v } | 15 => { r with code := v } | 16 => { r with time := v }
 | 17 => { r with onum := v } | 18 => { r with okind := v } | 19 => { r with oidx := v } | 20 => { r with oval := v } | _ => { r with k := v }
def offs (k : Int) : List Nat := if k = 1 then [1, 2, 3, 4, 5, 6] else if k = 2 then [8, 9, 10, 11] else if k = 3 then [7, 14, 15, 16] else if k = 4 then [7, 14, 15, 16] else if k = 5 then [18, 19, 20] else if k = 6 then [17] else []
def okO (o : Nat) : Prop := (1 ≤ o ∧ o ≤ 11) ∨ (14 ≤ o ∧ o ≤ 20)
theorem okO_cases {o : Nat} (h : okO o) : o = 1 ∨ o = 2 ∨ o = 3 ∨ o = 4 ∨ o = 5 ∨ o = 6 ∨ o = 7 ∨ o = 8 ∨ o = 9 ∨ o = 10 ∨ o = 11 ∨ o = 14 ∨ o = 15 ∨ o = 16 ∨ o = 17 ∨ o = 18 ∨ o = 19 ∨ o = 20 := by
 unfold okO at h; omega
theorem offs_cases (k : Int) : offs k = [] ∨ (k = 1 ∧ offs k = [1, 2, 3, 4, 5, 6]) ∨ (k = 2 ∧ offs k = [8, 9, 10, 11]) ∨ ((k = 3 ∨ k = 4) ∧ offs k = [7, 14, 15, 16]) ∨ (k = 5 ∧ offs k = [18, 19, 20]) ∨ (k = 6 ∧ offs k = [17]) := by
 unfold offs
 split
 ·rename_i h; exact .inr (.inl ⟨h, rfl⟩)
 split
 ·rename_i h; exact .inr (.inr (.inl ⟨h, rfl⟩))
 split
 ·rename_i h; exact .inr (.inr (.inr (.inl ⟨.inl h, rfl⟩)))
 split
 ·rename_i h; exact .inr (.inr (.inr (.inl ⟨.inr h, rfl⟩)))
 split
 ·rename_i h; exact .inr (.inr (.inr (.inr (.inl ⟨h, rfl⟩))))
 split
 ·rename_i h; exact .inr (.inr (.inr (.inr (.inr ⟨h, rfl⟩))))
 ·exact .inl rfl
theorem offs_ok {k : Int} {o : Nat} (h : o ∈ offs k) : okO o := by
 unfold okO
 rcases offs_cases k with e | ⟨_, e⟩ | ⟨_, e⟩ | ⟨_, e⟩ | ⟨_, e⟩ | ⟨_, e⟩ <;> rw [e] at h <;> simp at h <;> omega
theorem offs_len (k : Int) : (offs k).length ≤ 6 := by
 rcases offs_cases k with e | ⟨_, e⟩ | ⟨_, e⟩ | ⟨_, e⟩ | ⟨_, e⟩ | ⟨_, e⟩ <;> rw [e] <;> simp
theorem offs_kind {k : Int} (h : offs k ≠ []) : 1 ≤ k ∧ k ≤ 6 := by
 rcases offs_cases k with e | ⟨_, e⟩ | ⟨_, e⟩ | ⟨_, e⟩ | ⟨_, e⟩ | ⟨_, e⟩ <;> first | exact absurd e h | omega
theorem rcX_get (E : AV) (r : Rc) {o : Nat} (h : okO o) : (rcells E r)[o]? = some (.int .i64 (cI r o)) := by
 rcases okO_cases h with rfl | rfl | rfl | rfl | rfl | rfl | rfl | rfl | rfl | rfl | rfl | rfl | rfl | rfl | rfl | rfl | rfl | rfl <;> rfl
theorem rcX_set (E : AV) (r : Rc) {o : Nat} (h : okO o) (v : Int) : setc o (.int .i64 v) (rcX E r) = rcX E (sI r o v) := by
 rcases okO_cases h with rfl | rfl | rfl | rfl | rfl | rfl | rfl | rfl | rfl | rfl | rfl | rfl | rfl | rfl | rfl | rfl | rfl | rfl <;> rfl
theorem rcX_gd (E : AV) (r : Rc) {o : Nat} (h : okO o) : (rcX E r).cells.getD o .junk = .int .i64 (cI r o) := by
 simp only [rcX, AV.cells, List.getD_eq_getElem?_getD, rcX_get E r h, Option.getD_some]
theorem rcX_gd0 (E : AV) (r : Rc) : (rcX E r).cells.getD 0 .junk = .int .i64 r.k := rfl
theorem rcX_dt (E : AV) (r : Rc) : AV.agg (((rcX E r).cells.drop 0).take 21) = rcX E r := rfl
theorem rcX_tk (E : AV) (r : Rc) : AV.agg ((rcX E r).cells.take 21) = rcX E r := rfl
theorem rcX_cells (E : AV) (r : Rc) : (rcX E r).cells.length = 21 := rfl
theorem rcX_flat {E : AV} (r : Rc) (h : E.one = true) : (rcX E r).flat = true := by simp [rcX, rcells, AV.flat, AV.one]; exact h
theorem rcX_rep (E F : AV) (r q : Rc) : setc 0 (rcX E r) (rcX F q) = rcX E r := rfl
theorem rck_fold (k : Int) : AV.agg [AV.int IntKind.i64 k, AV.int IntKind.i64 0, AV.int IntKind.i64 0, AV.int IntKind.i64 0, AV.int IntKind.i64 0, AV.int IntKind.i64 0, AV.int IntKind.i64 0, AV.int IntKind.i64 0, AV.int IntKind.i64 0, AV.int IntKind.i64 0, AV.int IntKind.i64 0, AV.int IntKind.i64 0, AV.nil, AV.bool false, AV.int IntKind.i64 0, AV.int IntKind.i64 0, AV.int IntKind.i64 0, AV.int IntKind.i64 0, AV.int IntKind.i64 0, AV.int IntKind.i64 0, AV.int IntKind.i64 0] = rcX .nil (rc0 k) := rfl
def vB (n : Int) : Bool := decide (0 ≤ n) && decide (n ≤ 274877906944)
def numsR (r : Rc) : List Int := (offs r.k).map (cI r)
def bareR (r : Rc) (l : List Nat) : Rc := l.foldl (fun b o => sI b o (cI r o)) (rc0 r.k)
def putR (b : Rc) : List Nat → List Int → Rc
 | o :: os, v :: vs => putR (sI b o v) os vs
 | _, _ => b
def madeR (k : Int) (l : List Int) : Rc := putR (rc0 k) (offs k) l
theorem putR_map (r : Rc) : ∀ (l : List Nat) (b : Rc), putR b l (l.map (cI r)) = l.foldl (fun b o => sI b o (cI r o)) b
 | [], b => rfl
 | o :: l, b => putR_map r l _
theorem madeR_nums (r : Rc) : madeR r.k (numsR r) = bareR r (offs r.k) := putR_map r _ _
theorem sI_sg (r : Rc) {o : Nat} (h : okO o) (v : Int) : (sI r o v).sg = r.sg := by
 rcases okO_cases h with rfl | rfl | rfl | rfl | rfl | rfl | rfl | rfl | rfl | rfl | rfl | rfl | rfl | rfl | rfl | rfl | rfl | rfl <;> rfl
def validR (r : Rc) : Bool := decide (offs r.k ≠ []) && (numsR r).all vB && decide (bareR r (offs r.k) = r)
def encL (r : Rc) : List Int := putB r.k 1 ++ (numsR r).flatMap fun n => putB n 5
def encS (r : Rc) : ByteArray := bs (encL r ++ putB (sumS (bs (encL r))) 4)
def encR (r : Rc) : ByteArray × Int := if validR r then (encS r, 0) else (⟨#[]⟩, 49)
def appR (s : ByteArray) (r : Rc) : ByteArray × Int := if validR r then (s ++ encS r, 0) else (⟨#[]⟩, 49)
def getS (s : ByteArray) (at' k : Nat) : Int := getL (((sb s).drop at').take k)
def numsAt (s : ByteArray) (at' n : Nat) : List Int := (List.range n).map fun i => getS s (at' + 1 + 5 * i) 5
def decN (s : ByteArray) (a : Nat) : Rc × Int × Int :=
 let k := (sb s).getD a 0
 let n := (offs k).length
 if offs k = [] then (rc0 0, 0, 49) else if s.size < a + 1 + 5 * n + 4 then (rc0 0, 0, 7) else
 if getS s (a + 1 + 5 * n) 4 ≠ sumS (s.extract a (a + 1 + 5 * n)) then (rc0 0, 0, 8) else
 if (numsAt s a n).all vB then (madeR k (numsAt s a n), a + 1 + 5 * n + 4, 0) else (rc0 0, 0, 49)
def decR (s : ByteArray) (a : Int) : Rc × Int × Int := if a < 0 ∨ (s.size : Int) < a then (rc0 0, 0, 1) else if a = s.size then (rc0 0, 0, 7) else decN s a.toNat
def decV (s : ByteArray) (a : Int) : AV := .tuple [rcv (decR s a).1, .int .i64 (decR s a).2.1, .int .i64 (decR s a).2.2]
theorem rcs_length (l : List Rc) : (rcs l).length = l.length := by simp [rcs]
theorem rcs_get (l : List Rc) (i : Nat) : (rcs l)[i]? = (l[i]?).map rcv := by simp [rcs]
theorem rcv_pur (r : Rc) : (rcv r).pur = true := rfl
theorem rcN_pur (r : Rc) : (rcX .nil r).pur = true := rfl
theorem rcs_pur (l : List Rc) : ∀ x ∈ rcs l, x.pur = true := by simp [rcs, rcv_pur]
theorem rcv_ok (r : Rc) : okE 21 (rcv r) := ⟨rfl, rfl⟩
theorem rcs_ok (l : List Rc) : ∀ x ∈ rcs l, okE 21 x := by simp [rcs]; intro a _; exact rcv_ok a
theorem rcN_nl {r : Rc} (h : r.sg = []) : NlR (rcX .nil r) (rcv r) := by
 rw [rcv, rcX, rcX, rcells, rcells, h]
 exact .agg (.cons .rfl (.cons .rfl (.cons .rfl (.cons .rfl (.cons .rfl (.cons .rfl (.cons .rfl (.cons .rfl (.cons .rfl (.cons .rfl (.cons .rfl (.cons .rfl (.cons (.nil 1) (NlRs.refl _))))))))))))))
theorem rcN_pub {σ : St} {r : Rc} (h : r.sg = []) : Pub σ (rcX .nil r) (rcv r) := by
 rw [rcv, rcX, rcX, rcells, rcells, h]
 exact Pub.ag (.cons (Pub.e rfl) (.cons (Pub.e rfl) (.cons (Pub.e rfl) (.cons (Pub.e rfl) (.cons (Pub.e rfl) (.cons (Pub.e rfl) (.cons (Pub.e rfl) (.cons (Pub.e rfl) (.cons (Pub.e rfl) (.cons (Pub.e rfl) (.cons (Pub.e rfl) (.cons (Pub.e rfl) (.cons (.nl 1)
  (.cons (Pub.e rfl) (.cons (Pub.e rfl) (.cons (Pub.e rfl) (.cons (Pub.e rfl) (.cons (Pub.e rfl) (.cons (Pub.e rfl) (.cons (Pub.e rfl) (.cons (Pub.e rfl) .nil)))))))))))))))))))))
def numJ (r : Rc) : List Int × Bool := if offs r.k = [] then ([], false) else if (numsR r).all vB then (numsR r, decide (bareR r (offs r.k) = r)) else ([], false)
theorem bareR_snoc (r : Rc) (l : List Nat) (o : Nat) : bareR r (l ++ [o]) = sI (bareR r l) o (cI r o) := by simp [bareR, List.foldl_append]
theorem foldI_sg (r : Rc) : ∀ (l : List Nat) (b : Rc), b.sg = [] → (∀ o ∈ l, okO o) → (l.foldl (fun b o => sI b o (cI r o)) b).sg = []
 | [], b, h, _ => h
 | o :: l, b, h, hl => foldI_sg r l _ (by rw [sI_sg _ (hl o (by simp))]; exact h) fun x hx => hl x (by simp [hx])
theorem bareR_sg (r : Rc) (l : List Nat) (h : ∀ o ∈ l, okO o) : (bareR r l).sg = [] := foldI_sg r l _ rfl h
abbrev tyF : TypeId := 88
def FldR (σ : St) (id g : Nat) (r : AV) (τ : St) : Prop := ∃ M gm L, r = .mapo M gm ∧ σ.n ≤ τ.n ∧ (∀ i, i < σ.n → τ.ob i = σ.ob i) ∧ τ.ob M = some ⟨gm, 2, mapTy, false, false, L⟩ ∧ keysOk .i64 L = true ∧
 ∀ k : Int, (mget k L = none ∧ offs k = []) ∨ ∃ i gi, mget k L = some (.sl i gi 1 0 (offs k).length) ∧ offs k ≠ [] ∧ σ.n ≤ i ∧ i < τ.n ∧ τ.ob i = some ⟨gi, 1, tyF, false, true, (offs k).map fun o => .ptr id g 21 0 o⟩
theorem hc_journal_fields (σ : St) (id g : Nat) : HC prog n_journal_fields [.ptr id g 21 0 0] σ (FldR σ id g) := by
 obtain ⟨ob0, n0, c0⟩ := σ
 refine HC_of_body b_journal_fields (by simp) ?_
 simp only [c_journal_fields]
 try simp (disch := omega) only [go_sem, jA, jB, jC, jD, jE, jF, jG, jH, jI, jJ, ↓reduceIte, reduceCtorEq, jO, jM, jN, jK, jL]
 repeat' (refine And.intro ?_ ?_)
 all_goals try omega
 refine ⟨n0, c0, _, rfl, by simp only; omega, fun i hi => ?_, upd_same _ _ _, by simp [keysOk, keyOk], fun k => ?_⟩
 ·simp only at hi ⊢
  simp (disch := omega) only [upd_ne]
 have e1 : (offs 1).map (fun o => AV.ptr id g 21 0 o) = [.ptr id g 21 0 1, .ptr id g 21 0 2, .ptr id g 21 0 3, .ptr id g 21 0 4, .ptr id g 21 0 5, .ptr id g 21 0 6] := rfl
 rcases offs_cases k with e | ⟨rfl, e⟩ | ⟨rfl, e⟩ | ⟨rfl | rfl, e⟩ | ⟨rfl, e⟩ | ⟨rfl, e⟩
 ·refine .inl ⟨?_, e⟩
  have h1 : ¬ k = 1 := fun h => by rw [h] at e; simp [offs] at e
  have h2 : ¬ k = 2 := fun h => by rw [h] at e; simp [offs] at e
  have h3 : ¬ k = 3 := fun h => by rw [h] at e; simp [offs] at e
  have h4 : ¬ k = 4 := fun h => by rw [h] at e; simp [offs] at e
  have h5 : ¬ k = 5 := fun h => by rw [h] at e; simp [offs] at e
  have h6 : ¬ k = 6 := fun h => by rw [h] at e; simp [offs] at e
  try simp (disch := omega) only [go_sem, jA, jB, jC, jD, jE, jF, jG, jH, jI, jJ, ↓reduceIte, reduceCtorEq, jO, jM, jN, jK, jL, h1, h2, h3, h4, h5, h6]
 ·refine .inr ⟨n0 + 27, c0 + 27, rfl, by simp [offs], by simp only; omega, by simp only; omega, ?_⟩
  simp (disch := omega) only [upd_ne, upd_same]; rfl
 ·refine .inr ⟨n0 + 45, c0 + 45, rfl, by simp [offs], by simp only; omega, by simp only; omega, ?_⟩
  simp (disch := omega) only [upd_ne, upd_same]; rfl
 ·refine .inr ⟨n0 + 60, c0 + 60, rfl, by simp [offs], by simp only; omega, by simp only; omega, ?_⟩
  simp (disch := omega) only [upd_ne, upd_same]; rfl
 ·refine .inr ⟨n0 + 75, c0 + 75, rfl, by simp [offs], by simp only; omega, by simp only; omega, ?_⟩
  simp (disch := omega) only [upd_ne, upd_same]; rfl
 ·refine .inr ⟨n0 + 89, c0 + 89, rfl, by simp [offs], by simp only; omega, by simp only; omega, ?_⟩
  simp (disch := omega) only [upd_ne, upd_same]; rfl
 ·refine .inr ⟨n0 + 95, c0 + 95, rfl, by simp [offs], by simp only; omega, by simp only; omega, ?_⟩
  simp (disch := omega) only [upd_ne, upd_same]; rfl
theorem ok_slices_Equal__int (a b : List Int) (ha : a.length ≤ 9223372036854775807) : PC prog n_slices_Equal__int [.list 1 (ints a), .list 1 (ints b)] (.bool (decide (a = b))) := by
 refine PC_of_body b_slices_Equal__int (by simp) ?_
 simp only [c_slices_Equal__int, go_sem, jA, jB, jC, jD, jE, jF, jG, jH, jI, jJ, ↓reduceIte, reduceCtorEq, jP, ints_length]
 refine cond_n (fun h => ?_) (fun h => ?_) <;> try simp (disch := omega) only [go_sem, jA, jB, jC, jD, jE, jF, jG, jH, jI, jJ, ↓reduceIte, reduceCtorEq, jO, jM, jN, jK, jL]
 ·exact Pub.of_eq (by congr 1; simp; intro hab; exact h (by rw [hab])) rfl
 have hl : a.length = b.length := by omega
 refine awp_upF [4, 5, 13, 14, 15, 16, 17, 18, 19, 20, 21, 22, 23, 24, 25] (by kernel_rfl) a.length (fun k e _ => e 13 = .int .i64 k ∧ ∀ j, j < k → a[j]? = b[j]?) ?_ ?_
 ·exact ⟨(by first | rfl | (simp (disch := omega) only [go_sem, jA, jB, jC, jD, jE, jF, jG, jH, jI, jJ, ↓reduceIte, reduceCtorEq, jP, jO, jM, jN]; try rfl)), fun j hj => by omega⟩
 ·rintro k fe ob c hk ⟨h13, hj⟩
  simp (maxSteps := 1000000) only [go_sem, jA, jB, jC, jD, jE, jF, jG, jH, jI, jJ, ↓reduceIte, reduceCtorEq, jP] at h13
  try simp (disch := omega) only [go_sem, jA, jB, jC, jD, jE, jF, jG, jH, jI, jJ, ↓reduceIte, reduceCtorEq, jO, jM, jN, jK, jL, h13, ints_length]
  refine cond_d (fun hlt => ?_) (fun hge => ?_)
  ·have hka : k < a.length := by omega
   have hga : a[k]? = some a[k] := List.getElem?_eq_getElem hka
   have hgb : b[k]? = some b[k] := List.getElem?_eq_getElem (by omega)
   try simp (disch := omega) only [go_sem, jA, jB, jC, jD, jE, jF, jG, jH, jI, jJ, ↓reduceIte, reduceCtorEq, jO, jM, jN, jK, jL, h13, ints_length, ints_get, hga, hgb, Option.map_some]
   repeat (refine And.intro (by first | omega | (rw [mxL]; omega) | (simp [maxLen]; done) | (simp [maxLen]; omega)) ?_)
   refine cond_n (fun hne => ?_) (fun heq => ?_)
   ·try simp (disch := omega) only [go_sem, jA, jB, jC, jD, jE, jF, jG, jH, jI, jJ, ↓reduceIte, reduceCtorEq, jO, jM, jN, jK, jL]
    exact Pub.of_eq (by congr 1; simp; intro hab; subst hab; exact hne rfl) rfl
   ·try simp (disch := omega) only [go_sem, jA, jB, jC, jD, jE, jF, jG, jH, jI, jJ, ↓reduceIte, reduceCtorEq, jO, jM, jN, jK, jL, h13]
    refine up_next hka ⟨(by first | rfl | (simp (disch := omega) only [go_sem, jA, jB, jC, jD, jE, jF, jG, jH, jI, jJ, ↓reduceIte, reduceCtorEq, jP, jO, jM, jN]; try rfl)), fun j hj' => ?_⟩
    by_cases e : j = k
    ·have he : a[k] = b[k] := heq
     subst e; rw [hga, hgb, he]
    ·exact hj j (by omega)
  ·try simp (disch := omega) only [go_sem, jA, jB, jC, jD, jE, jF, jG, jH, jI, jJ, ↓reduceIte, reduceCtorEq, jO, jM, jN, jK, jL]
   exact Pub.of_eq (by congr 1; simp; exact eq_of_get hl fun j hj' => hj j (by omega)) rfl
theorem rc_ne {a b : Rc} {α : Type} (f : Rc → α) (h : ¬ f a = f b) : decide (a = b) = false := by
 rw [decide_eq_false_iff_not]
 exact fun e => h (by rw [e])
theorem rc_neF {a b : Rc} {x : Bool} (h : x = false) (hx : a = b → x = true) : decide (a = b) = false := by
 rw [decide_eq_false_iff_not]
 exact fun e => by rw [hx e] at h; cases h
theorem ok_journal_Same (a b : Rc) (ha : a.sg.length ≤ 9223372036854775807) : PC prog n_journal_Same [rcv a, rcv b] (.bool (decide (a = b))) := by
 have hE := ok_slices_Equal__int a.sg b.sg ha
 refine PC_of_body b_journal_Same (by simp) ?_
 simp only [c_journal_Same, rcv, rcX, rcells]
 try simp (disch := omega) only [go_sem, jA, jB, jC, jD, jE, jF, jG, jH, jI, jJ, ↓reduceIte, reduceCtorEq, jO, jM, jN, jK, jL]
 refine gd_td rfl (fun h0 => ?_) (fun h0 => ?_) <;> try simp (disch := omega) only [go_sem, jA, jB, jC, jD, jE, jF, jG, jH, jI, jJ, ↓reduceIte, reduceCtorEq, jO, jM, jN, jK, jL]
 rotate_left
 ·exact Pub.of_eq (by rw [rc_ne Rc.k h0]) rfl
 refine gd_t rfl (fun h1 => ?_) (fun h1 => ?_) <;> try simp (disch := omega) only [go_sem, jA, jB, jC, jD, jE, jF, jG, jH, jI, jJ, ↓reduceIte, reduceCtorEq, jO, jM, jN, jK, jL]
 rotate_left
 ·exact Pub.of_eq (by rw [rc_neF h1 fun e => by subst e; simp]) rfl
 refine gd_td rfl (fun h2 => ?_) (fun h2 => ?_) <;> try simp (disch := omega) only [go_sem, jA, jB, jC, jD, jE, jF, jG, jH, jI, jJ, ↓reduceIte, reduceCtorEq, jO, jM, jN, jK, jL]
 rotate_left
 ·exact Pub.of_eq (by rw [rc_ne Rc.per h2]) rfl
 refine gd_td rfl (fun h3 => ?_) (fun h3 => ?_) <;> try simp (disch := omega) only [go_sem, jA, jB, jC, jD, jE, jF, jG, jH, jI, jJ, ↓reduceIte, reduceCtorEq, jO, jM, jN, jK, jL]
 rotate_left
 ·exact Pub.of_eq (by rw [rc_ne Rc.code h3]) rfl
 refine gd_td rfl (fun h4 => ?_) (fun h4 => ?_) <;> try simp (disch := omega) only [go_sem, jA, jB, jC, jD, jE, jF, jG, jH, jI, jJ, ↓reduceIte, reduceCtorEq, jO, jM, jN, jK, jL]
 rotate_left
 ·exact Pub.of_eq (by rw [rc_ne Rc.time h4]) rfl
 refine gd_t rfl (fun h5 => ?_) (fun h5 => ?_) <;> try simp (disch := omega) only [go_sem, jA, jB, jC, jD, jE, jF, jG, jH, jI, jJ, ↓reduceIte, reduceCtorEq, jO, jM, jN, jK, jL]
 rotate_left
 ·exact Pub.of_eq (by rw [rc_neF h5 fun e => by subst e; simp]) rfl
 refine gd_td rfl (fun h6 => ?_) (fun h6 => ?_) <;> try simp (disch := omega) only [go_sem, jA, jB, jC, jD, jE, jF, jG, jH, jI, jJ, ↓reduceIte, reduceCtorEq, jO, jM, jN, jK, jL]
 rotate_left
 ·exact Pub.of_eq (by rw [rc_ne Rc.did h6]) rfl
 refine gd_td rfl (fun h7 => ?_) (fun h7 => ?_) <;> try simp (disch := omega) only [go_sem, jA, jB, jC, jD, jE, jF, jG, jH, jI, jJ, ↓reduceIte, reduceCtorEq, jO, jM, jN, jK, jL]
 rotate_left
 ·exact Pub.of_eq (by rw [rc_ne Rc.site h7]) rfl
 refine gd_td rfl (fun h8 => ?_) (fun h8 => ?_) <;> try simp (disch := omega) only [go_sem, jA, jB, jC, jD, jE, jF, jG, jH, jI, jJ, ↓reduceIte, reduceCtorEq, jO, jM, jN, jK, jL]
 rotate_left
 ·exact Pub.of_eq (by rw [rc_ne Rc.fr h8]) rfl
 refine gd_td rfl (fun h9 => ?_) (fun h9 => ?_) <;> try simp (disch := omega) only [go_sem, jA, jB, jC, jD, jE, jF, jG, jH, jI, jJ, ↓reduceIte, reduceCtorEq, jO, jM, jN, jK, jL]
 rotate_left
 ·exact Pub.of_eq (by rw [rc_ne Rc.to h9]) rfl
 refine gd_td rfl (fun h10 => ?_) (fun h10 => ?_) <;> try simp (disch := omega) only [go_sem, jA, jB, jC, jD, jE, jF, jG, jH, jI, jJ, ↓reduceIte, reduceCtorEq, jO, jM, jN, jK, jL]
 rotate_left
 ·exact Pub.of_eq (by rw [rc_ne Rc.rel h10]) rfl
 refine gd_td rfl (fun h11 => ?_) (fun h11 => ?_) <;> try simp (disch := omega) only [go_sem, jA, jB, jC, jD, jE, jF, jG, jH, jI, jJ, ↓reduceIte, reduceCtorEq, jO, jM, jN, jK, jL]
 rotate_left
 ·exact Pub.of_eq (by rw [rc_ne Rc.wd h11]) rfl
 refine call_pc hE (by simp [go_sem, ints_pur]) ?_
 try simp (disch := omega) only [go_sem, jA, jB, jC, jD, jE, jF, jG, jH, jI, jJ, ↓reduceIte, reduceCtorEq, jO, jM, jN, jK, jL]
 refine Pub.of_eq ?_ rfl
 congr 1
 rw [Bool.eq_iff_iff, decide_eq_true_eq, decide_eq_true_eq]
 simp only [Bool.and_eq_true, decide_eq_true_eq] at h1 h5
 obtain ⟨⟩ := a
 obtain ⟨⟩ := b
 simp only at *
 simp_all
theorem ok_ref32_Same (a b : Rc) (ha : a.sg.length ≤ 9223372036854775807) : PC prog n_ref32_Same [rcv a, rcv b] (.bool (decide (a = b))) := by
 refine PC_of_body b_ref32_Same (by simp) ?_
 simp only [c_ref32_Same, rcv, rcX, rcells]
 try simp (disch := omega) only [go_sem, jA, jB, jC, jD, jE, jF, jG, jH, jI, jJ, ↓reduceIte, reduceCtorEq, jO, jM, jN, jK, jL]
 refine gd_fn rfl (fun h0 => ?_) (fun h0 => ?_) <;> try simp (disch := omega) only [go_sem, jA, jB, jC, jD, jE, jF, jG, jH, jI, jJ, ↓reduceIte, reduceCtorEq, jO, jM, jN, jK, jL]
 ·exact Pub.of_eq (by rw [rc_ne Rc.did h0]) rfl
 refine gd_fn rfl (fun h1 => ?_) (fun h1 => ?_) <;> try simp (disch := omega) only [go_sem, jA, jB, jC, jD, jE, jF, jG, jH, jI, jJ, ↓reduceIte, reduceCtorEq, jO, jM, jN, jK, jL]
 ·exact Pub.of_eq (by rw [rc_ne Rc.site h1]) rfl
 refine gd_fn rfl (fun h2 => ?_) (fun h2 => ?_) <;> try simp (disch := omega) only [go_sem, jA, jB, jC, jD, jE, jF, jG, jH, jI, jJ, ↓reduceIte, reduceCtorEq, jO, jM, jN, jK, jL]
 ·exact Pub.of_eq (by rw [rc_ne Rc.fr h2]) rfl
 refine gd_fn rfl (fun h3 => ?_) (fun h3 => ?_) <;> try simp (disch := omega) only [go_sem, jA, jB, jC, jD, jE, jF, jG, jH, jI, jJ, ↓reduceIte, reduceCtorEq, jO, jM, jN, jK, jL]
 ·exact Pub.of_eq (by rw [rc_ne Rc.to h3]) rfl
 refine gd_fn rfl (fun h4 => ?_) (fun h4 => ?_) <;> try simp (disch := omega) only [go_sem, jA, jB, jC, jD, jE, jF, jG, jH, jI, jJ, ↓reduceIte, reduceCtorEq, jO, jM, jN, jK, jL]
 ·exact Pub.of_eq (by rw [rc_ne Rc.rel h4]) rfl
 refine gd_fn rfl (fun h5 => ?_) (fun h5 => ?_) <;> try simp (disch := omega) only [go_sem, jA, jB, jC, jD, jE, jF, jG, jH, jI, jJ, ↓reduceIte, reduceCtorEq, jO, jM, jN, jK, jL]
 ·exact Pub.of_eq (by rw [rc_ne Rc.wd h5]) rfl
 try simp (disch := omega) only [go_sem, jA, jB, jC, jD, jE, jF, jG, jH, jI, jJ, ↓reduceIte, reduceCtorEq, jO, jM, jN, jK, jL, ints_length]
 refine cond_n (fun h6 => ?_) (fun h6 => ?_) <;> try simp (disch := omega) only [go_sem, jA, jB, jC, jD, jE, jF, jG, jH, jI, jJ, ↓reduceIte, reduceCtorEq, jO, jM, jN, jK, jL, ints_length]
 ·exact Pub.of_eq (by rw [rc_ne (fun r => r.sg.length) (fun e => h6 (by rw [e]))]) rfl
 have hl : a.sg.length = b.sg.length := by omega
 refine awp_upG [4, 7, 64, 65, 66, 67, 68, 69, 70, 71, 72, 73, 74, 75, 76, 77, 78] (by kernel_rfl) a.sg.length (fun k e σ => e 64 = .int .i64 k ∧ 4 ≤ σ.n ∧ (∀ j, j < k → a.sg[j]? = b.sg[j]?) ∧ σ.ob 0 = some ⟨0, 21, 41, false, true, [rcv a]⟩ ∧ σ.ob 1 = some ⟨1, 21, 41, false, true, [rcv b]⟩ ∧
  σ.ob 3 = some ⟨3, 7, 37, false, true, [.agg [.int .i64 a.did, .int .i64 a.site, .int .i64 a.fr, .int .i64 a.to, .int .i64 a.rel, .list 1 (ints a.sg), .bool a.wd]]⟩ ∧
  σ.ob 2 = some ⟨2, 7, 37, false, true, [.agg [.int .i64 b.did, .int .i64 b.site, .int .i64 b.fr, .int .i64 b.to, .int .i64 b.rel, .list 1 (ints b.sg), .bool b.wd]]⟩) ?_ ?_
 ·exact ⟨(by first | rfl | (simp (disch := omega) only [go_sem, jA, jB, jC, jD, jE, jF, jG, jH, jI, jJ, ↓reduceIte, reduceCtorEq, jP, jO, jM, jN]; try rfl)), Nat.le_refl _, fun j hj => by omega, (by first | rfl | (simp (disch := omega) only [go_sem, jA, jB, jC, jD, jE, jF, jG, jH, jI, jJ, ↓reduceIte, reduceCtorEq, jP, jO, jM, jN]; try rfl)), (by first | rfl | (simp (disch := omega) only [go_sem, jA, jB, jC, jD, jE, jF, jG, jH, jI, jJ, ↓reduceIte, reduceCtorEq, jP, jO, jM, jN]; try rfl)), (by first | rfl | (simp (disch := omega) only [go_sem, jA, jB, jC, jD, jE, jF, jG, jH, jI, jJ, ↓reduceIte, reduceCtorEq, jP, jO, jM, jN]; try rfl)), (by first | rfl | (simp (disch := omega) only [go_sem, jA, jB, jC, jD, jE, jF, jG, jH, jI, jJ, ↓reduceIte, reduceCtorEq, jP, jO, jM, jN]; try rfl))⟩
 rintro k fe ob m c hk hm ⟨hki, hm4, hj, u0, u1, u3, u2⟩
 simp (maxSteps := 1000000) only [go_sem, jA, jB, jC, jD, jE, jF, jG, jH, jI, jJ, ↓reduceIte, reduceCtorEq, jP, rcv, rcX, rcells] at hki hm hm4 u0 u1 u2 u3
 try simp (disch := omega) only [go_sem, jA, jB, jC, jD, jE, jF, jG, jH, jI, jJ, ↓reduceIte, reduceCtorEq, jO, jM, jN, jK, jL, hki, ints_length]
 refine cond_d (fun hlt => ?_) (fun hge => ?_)
 ·have hka : k < a.sg.length := by omega
  have hga : a.sg[k]? = some a.sg[k] := List.getElem?_eq_getElem hka
  have hgb : b.sg[k]? = some b.sg[k] := List.getElem?_eq_getElem (by omega)
  try simp (disch := omega) only [go_sem, jA, jB, jC, jD, jE, jF, jG, jH, jI, jJ, ↓reduceIte, reduceCtorEq, jO, jM, jN, jK, jL, hki, u2, u3, ints_length, ints_get, hga, hgb, Option.map_some]
  refine ⟨by omega, by omega, by omega, by omega, ?_⟩
  refine cond_n (fun hne => ?_) (fun heq => ?_) <;> try simp (disch := omega) only [go_sem, jA, jB, jC, jD, jE, jF, jG, jH, jI, jJ, ↓reduceIte, reduceCtorEq, jO, jM, jN, jK, jL, hki]
  ·exact Pub.of_eq (by rw [rc_ne (fun r => r.sg[k]?) (fun e => hne (by simpa [hga, hgb] using e))]) rfl
  ·refine up_nextG m hka (by omega) ⟨(by first | rfl | (simp (disch := omega) only [go_sem, jA, jB, jC, jD, jE, jF, jG, jH, jI, jJ, ↓reduceIte, reduceCtorEq, jP, jO, jM, jN]; try rfl)), by simp only [St.trunc]; omega, fun j hj' => ?_, ?_, ?_, ?_, ?_⟩
   ·by_cases e : j = k
    ·subst e; rw [hga, hgb]; exact congrArg some heq
    ·exact hj j (by omega)
   ·simp only [St.trunc, rcv, rcX, rcells]; rw [if_pos (by omega)]; exact u0
   ·simp only [St.trunc, rcv, rcX, rcells]; rw [if_pos (by omega)]; exact u1
   ·simp only [St.trunc]; rw [if_pos (by omega)]; exact u3
   ·simp only [St.trunc]; rw [if_pos (by omega)]; exact u2
 obtain rfl : k = a.sg.length := by omega
 have hsg : a.sg = b.sg := eq_of_get hl fun j hj' => hj j (by omega)
 clear hge hj hki u2 u3
 try simp (disch := omega) only [go_sem, jA, jB, jC, jD, jE, jF, jG, jH, jI, jJ, ↓reduceIte, reduceCtorEq, jO, jM, jN, jK, jL, u0, u1]
 refine gd_td rfl (fun h10 => ?_) (fun h10 => ?_) <;> try simp (disch := omega) only [go_sem, jA, jB, jC, jD, jE, jF, jG, jH, jI, jJ, ↓reduceIte, reduceCtorEq, jO, jM, jN, jK, jL, u0, u1]
 rotate_left
 ·exact Pub.of_eq (by rw [rc_ne Rc.k h10]) rfl
 refine gd_t rfl (fun h11 => ?_) (fun h11 => ?_) <;> try simp (disch := omega) only [go_sem, jA, jB, jC, jD, jE, jF, jG, jH, jI, jJ, ↓reduceIte, reduceCtorEq, jO, jM, jN, jK, jL, u0, u1]
 rotate_left
 ·exact Pub.of_eq (by rw [rc_neF h11 fun e => by subst e; simp]) rfl
 refine gd_td rfl (fun h12 => ?_) (fun h12 => ?_) <;> try simp (disch := omega) only [go_sem, jA, jB, jC, jD, jE, jF, jG, jH, jI, jJ, ↓reduceIte, reduceCtorEq, jO, jM, jN, jK, jL, u0, u1]
 rotate_left
 ·exact Pub.of_eq (by rw [rc_ne Rc.per h12]) rfl
 refine gd_td rfl (fun h13 => ?_) (fun h13 => ?_) <;> try simp (disch := omega) only [go_sem, jA, jB, jC, jD, jE, jF, jG, jH, jI, jJ, ↓reduceIte, reduceCtorEq, jO, jM, jN, jK, jL, u0, u1]
 rotate_left
 ·exact Pub.of_eq (by rw [rc_ne Rc.code h13]) rfl
 refine gd_td rfl (fun h14 => ?_) (fun h14 => ?_) <;> try simp (disch := omega) only [go_sem, jA, jB, jC, jD, jE, jF, jG, jH, jI, jJ, ↓reduceIte, reduceCtorEq, jO, jM, jN, jK, jL, u0, u1]
 rotate_left
 ·exact Pub.of_eq (by rw [rc_ne Rc.time h14]) rfl
 refine Pub.of_eq ?_ rfl
 congr 1
 rw [Bool.eq_iff_iff, decide_eq_true_eq]
 simp only [Bool.and_eq_true, decide_eq_true_eq] at h11 ⊢
 clear u0 u1
 obtain ⟨⟩ := a
 obtain ⟨⟩ := b
 simp only at *
 simp_all
theorem ok_journal_numbers (r : Rc) (hr : r.sg.length ≤ 9223372036854775807) : PC prog n_journal_numbers [rcv r] (.tuple [.list 1 (ints (numJ r).1), .bool (numJ r).2]) := by
 have hfl := rcX_flat (E := .list 1 (ints r.sg)) r rfl
 have hfn := rcX_flat (E := .nil) (rc0 r.k) rfl
 have hSm := ok_journal_Same r (bareR r (offs r.k)) hr
 refine PC_of_body b_journal_numbers (by simp) ?_
 simp only [c_journal_numbers, rcv]
 try simp (disch := omega) only [go_sem, jA, jB, jC, jD, jE, jF, jG, jH, jI, jJ, ↓reduceIte, reduceCtorEq, jO, jM, jN, jK, jL, hfl, rcX_cells]
 refine (hc_journal_fields _ 0 0).mono ?_
 rintro r1 ⟨ob1, n1, c1⟩ ⟨M, gm, L, rfl, hn1, ho1, hM, hKo, hF⟩
 have u0 := ho1 0 (by simp only; omega)
 simp only at hn1 ho1 hM
 try simp (disch := omega) only [go_sem, jA, jB, jC, jD, jE, jF, jG, jH, jI, jJ, ↓reduceIte, reduceCtorEq, jO, jM, jN, jK, jL] at u0
 try simp (disch := omega) only [go_sem, jA, jB, jC, jD, jE, jF, jG, jH, jI, jJ, ↓reduceIte, reduceCtorEq, jO, jM, jN, jK, jL, hM, u0, rcX_gd0, hKo]
 rcases hF r.k with ⟨hg, he⟩ | ⟨i1, g1, hg, hne, hi1, hi1', hi1o⟩
 ·try simp (disch := omega) only [go_sem, jA, jB, jC, jD, jE, jF, jG, jH, jI, jJ, ↓reduceIte, reduceCtorEq, jO, jM, jN, jK, jL, hg]
  rw [numJ, if_pos he]
  exact Pub.tu (.cons (.nl 1) (.cons (Pub.e rfl) .nil))
 simp only at hi1 hi1' hi1o
 try simp (disch := omega) only [go_sem, jA, jB, jC, jD, jE, jF, jG, jH, jI, jJ, ↓reduceIte, reduceCtorEq, jO, jM, jN, jK, jL, hg, u0, rcX_gd0]
 refine (hc_journal_fields _ n1 c1).mono ?_
 rintro r2 ⟨ob2, n2, c2⟩ ⟨M2, gm2, L2, rfl, hn2, ho2, hM2, hKo2, hF2⟩
 rcases hF2 r.k with ⟨_, he⟩ | ⟨i2, g2, hg2, _, hi2, hi2', hi2o⟩
 ·exact absurd he hne
 simp only at hn2 hM2 hi2 hi2' hi2o
 have v0 := (ho2 0 (by simp only; omega)).trans ((upd_ne _ _ _ _ (by omega)).trans ((upd_ne _ _ _ _ (by omega)).trans u0))
 have v1 := (ho2 i1 (by simp only; omega)).trans ((upd_ne _ _ _ _ (by omega)).trans ((upd_ne _ _ _ _ (by omega)).trans hi1o))
 have vb := (ho2 n1 (by simp only; omega)).trans (upd_same _ _ _)
 simp only at v0 v1 vb
 have hbk := rck_fold r.k
 rw [hbk] at vb
 clear hF hF2 hM hKo hg ho1 ho2 hi1o
 have h6 := offs_len r.k
 have hofl : ((offs r.k).map fun o => AV.ptr 0 0 21 0 o).length = (offs r.k).length := List.length_map ..
 have hofl2 : ((offs r.k).map fun o => AV.ptr n1 c1 21 0 o).length = (offs r.k).length := List.length_map ..
 try simp (disch := omega) only [go_sem, jA, jB, jC, jD, jE, jF, jG, jH, jI, jJ, ↓reduceIte, reduceCtorEq, jO, jM, jN, jK, jL, hM2, v0, rcX_gd0, hKo2, hg2]
 refine ⟨u0.symm, ?_⟩
 clear u0
 refine awp_upG [2, 3, 8, 9, 10, 29, 30, 31, 32, 33, 34, 35, 36, 37, 38, 39, 40, 41, 42, 43, 44, 45, 46, 47, 48, 49, 50, 51, 52, 53, 54, 55, 56, 57, 58] (by kernel_rfl) (offs r.k).length (fun i e σ => e 29 = .int .i64 i ∧ n2 ≤ σ.n ∧ σ.ob 0 = some ⟨0, 21, 41, false, true, [rcX (.list 1 (ints r.sg)) r]⟩ ∧ σ.ob i1 = some ⟨g1, 1, tyF, false, true, (offs r.k).map fun o => .ptr 0 0 21 0 o⟩ ∧
  σ.ob i2 = some ⟨g2, 1, tyF, false, true, (offs r.k).map fun o => .ptr n1 c1 21 0 o⟩ ∧ σ.ob n1 = some ⟨c1, 21, 41, false, true, [rcX .nil (bareR r ((offs r.k).take i))]⟩ ∧
  (((offs r.k).take i).map (cI r)).all vB = true ∧ ∃ X, At e 8 X ∧ SlR 1 3 σ (ints (((offs r.k).take i).map (cI r))) X ∧ ∀ j, ¬ Oth X j → n2 ≤ j) ?_ ?_
 ·refine ⟨(by first | rfl | (simp (disch := omega) only [go_sem, jA, jB, jC, jD, jE, jF, jG, jH, jI, jJ, ↓reduceIte, reduceCtorEq, jP, jO, jM, jN]; try rfl)), Nat.le_refl _, v0, v1, hi2o, vb, rfl, .nil, (by simp only [At]; try simp (disch := omega) only [go_sem, jA, jB, jC, jD, jE, jF, jG, jH, jI, jJ, ↓reduceIte, reduceCtorEq, jO, jM, jN, jK, jL]), SlR.nil, fun j hj => absurd (Oth.nil j) hj⟩
 clear v0 v1 hi2o vb
 rintro i fe ob m c hi hm ⟨hii, hm1, v0, v1, v2, vb, hall, X, h8, hX, hXn⟩
 simp (maxSteps := 1000000) only [go_sem, jA, jB, jC, jD, jE, jF, jG, jH, jI, jJ, ↓reduceIte, reduceCtorEq, jP, At] at hii hm hm1 v0 v1 v2 vb h8
 try simp (disch := omega) only [go_sem, jA, jB, jC, jD, jE, jF, jG, jH, jI, jJ, ↓reduceIte, reduceCtorEq, jO, jM, jN, jK, jL, hii]
 refine cond_d (fun hlt => ?_) (fun hge => ?_)
 ·have hil : i < (offs r.k).length := by omega
  have hgo : (offs r.k)[i]? = some (offs r.k)[i] := List.getElem?_eq_getElem hil
  have hok : okO (offs r.k)[i] := offs_ok (List.getElem_mem hil)
  have htk : (offs r.k).take (i + 1) = (offs r.k).take i ++ [(offs r.k)[i]] := take_snocA _ _ hil
  generalize (offs r.k)[i] = o at *
  have q1 : ((offs r.k).map fun o => AV.ptr 0 0 21 0 o)[i]? = some (.ptr 0 0 21 0 o) := by rw [List.getElem?_map, hgo]; rfl
  have q2 : ((offs r.k).map fun o => AV.ptr n1 c1 21 0 o)[i]? = some (.ptr n1 c1 21 0 o) := by rw [List.getElem?_map, hgo]; rfl
  have hgd := rcX_gd (.list 1 (ints r.sg)) r hok
  have ho21 : o + 1 ≤ 21 := by unfold okO at hok; omega
  have hst := rcX_set .nil (bareR r ((offs r.k).take i)) hok (cI r o)
  have hbad : vB (cI r o) = false → ∀ σ : St, Pub σ (.tuple [.nil, .bool false]) (.tuple [.list 1 (ints (numJ r).1), .bool (numJ r).2]) := fun hb σ => by
   have : (numsR r).all vB = false := by
    rw [List.all_eq_false]
    exact ⟨cI r o, List.mem_map.2 ⟨o, List.mem_of_getElem? hgo, rfl⟩, by simp [hb]⟩
   rw [numJ, if_neg hne, this, if_neg (by simp)]
   exact Pub.tu (.cons (.nl 1) (.cons (Pub.e rfl) .nil))
  try simp (disch := omega) only [go_sem, jA, jB, jC, jD, jE, jF, jG, jH, jI, jJ, ↓reduceIte, reduceCtorEq, jO, jM, jN, jK, jL, hii, v1, q1, v0, hgd, hofl]
  refine ⟨by omega, by omega, by omega, ?_⟩
  refine gd_fd rfl (fun hb => ?_) (fun hb => ?_) <;> try simp (disch := omega) only [go_sem, jA, jB, jC, jD, jE, jF, jG, jH, jI, jJ, ↓reduceIte, reduceCtorEq, jO, jM, jN, jK, jL, v0, hgd]
  ·exact hbad (by simp [vB]; omega) _
  refine ⟨by omega, ?_⟩
  refine cond_d (fun hb2 => ?_) (fun hb2 => ?_) <;> try simp (disch := omega) only [go_sem, jA, jB, jC, jD, jE, jF, jG, jH, jI, jJ, ↓reduceIte, reduceCtorEq, jO, jM, jN, jK, jL]
  ·exact hbad (by simp [vB]; omega) _
  have zb : ¬ n1 = 0 := by omega
  have zb0 : ¬ 0 = n1 := by omega
  try simp (disch := omega) only [go_sem, jA, jB, jC, jD, jE, jF, jG, jH, jI, jJ, ↓reduceIte, reduceCtorEq, jO, jM, jN, jK, jL, v0, v2, q2, hgd, hofl2, vb, hst, zb, zb0]
  refine ⟨by omega, by omega, by omega, by omega, by omega, ?_⟩
  rw [h8]
  have ll : (ints (((offs r.k).take i).map (cI r))).length ≤ 6 := by rw [ints_length, List.length_map, List.length_take]; omega
  have hvb : vB (cI r o) = true := by simp [vB]; omega
  refine app_slr (b := 8) (hX.move (Nat.le_refl _) fun j hj hh => upd_ne _ _ _ _ fun e => by have := hXn j hh; omega) (by omega) (by omega) fun Y τ hY kY => ?_
  obtain ⟨ob5, m5, c5⟩ := τ
  have p1 : m ≤ m5 := kY.1
  have oX : ∀ j, j < n2 → Oth X j := fun j hj => Oth.em fun h => by have := hXn j h; omega
  have p2 : ∀ j, j < n2 → ob5 j = upd ob n1 (some ⟨c1, 21, 41, false, true, [rcX .nil (sI (bareR r ((offs r.k).take i)) o (cI r o))]⟩) j := fun j hj => kY.2.1 j (by simp only; omega) (oX j hj)
  try simp (disch := omega) only [go_sem, jA, jB, jC, jD, jE, jF, jG, jH, jI, jJ, ↓reduceIte, reduceCtorEq, jO, jM, jN, jK, jL, hii]
  refine up_nextG m5 hil (by omega) ⟨(by first | rfl | (simp (disch := omega) only [go_sem, jA, jB, jC, jD, jE, jF, jG, jH, jI, jJ, ↓reduceIte, reduceCtorEq, jP, jO, jM, jN]; try rfl)), by simp only [St.trunc]; omega, ?_, ?_, ?_, ?_, ?_, Y, (by simp only [At]; try simp (disch := omega) only [go_sem, jA, jB, jC, jD, jE, jF, jG, jH, jI, jJ, ↓reduceIte, reduceCtorEq, jO, jM, jN, jK, jL]), ?_, fun j hj => Nat.le_of_not_lt fun hh => hj (kY.2.2 j (by simp only; omega) (oX j hh))⟩
  ·rw [tr_ob (by omega), p2 _ (by omega), upd_ne _ _ _ _ (by omega)]; exact v0
  ·rw [tr_ob (by omega), p2 _ (by omega), upd_ne _ _ _ _ (by omega)]; exact v1
  ·rw [tr_ob (by omega), p2 _ (by omega), upd_ne _ _ _ _ (by omega)]; exact v2
  ·rw [tr_ob (by omega), p2 _ (by omega), upd_same, htk, bareR_snoc]
  ·rw [htk, List.map_append, List.all_append, hall]; simp [hvb]
  ·rw [htk, List.map_append, show ints (((offs r.k).take i).map (cI r) ++ [o].map (cI r)) = ints (((offs r.k).take i).map (cI r)) ++ [.int .i64 (cI r o)] by simp [ints]]
   exact hY.tr
 obtain rfl : i = (offs r.k).length := by omega
 rw [List.take_length] at vb hall hX
 clear hge hii
 have zb0 : ¬ 0 = n1 := by omega
 have e1 : numJ r = (numsR r, decide (r = bareR r (offs r.k))) := by
  rw [numJ, if_neg hne, if_pos (show (numsR r).all vB = true from hall)]
  simp [eq_comm]
 try simp (disch := omega) only [go_sem, jA, jB, jC, jD, jE, jF, jG, jH, jI, jJ, ↓reduceIte, reduceCtorEq, jO, jM, jN, jK, jL, v0, vb, h8, rcX_tk, rcX_dt]
 refine call_pc (pc_nl hSm (.cons .rfl (.cons (rcN_nl (bareR_sg r _ fun o ho => offs_ok ho)) .nil))) (by simp [rcN_pur]; exact rcv_pur r) ?_
 try simp (disch := omega) only [go_sem, jA, jB, jC, jD, jE, jF, jG, jH, jI, jJ, ↓reduceIte, reduceCtorEq, jO, jM, jN, jK, jL]
 rw [e1]
 exact Pub.tu (.cons (hX.pub (fun _ _ _ => rfl) (ints_pur _) (ints_ok _)) (.cons (Pub.e rfl) .nil))
abbrev tyB : TypeId := 5
def PutJ (σ : St) (id : Nat) (L : List Int) (r : AV) (τ : St) : Prop := ∃ g', r = .sl id g' 1 0 L.length ∧ τ.n = σ.n ∧ τ.ob id = some ⟨g', 1, tyB, false, true, u8s L⟩ ∧ ∀ i, i < σ.n → i ≠ id → τ.ob i = σ.ob i
theorem hc_journal_put (σ : St) (id g : Nat) (L : List Int) (x : Int) (k : Nat) (hL : L.length ≤ 1000000) (hk : k ≤ 5) (hid : id < σ.n) (hob : σ.ob id = some ⟨g, 1, tyB, false, true, u8s L⟩) :
  HC prog n_journal_put [.sl id g 1 0 L.length, .int .i64 x, .int .i64 k] σ (PutJ σ id (L ++ putB x k)) := by
 obtain ⟨ob0, n0, c0⟩ := σ
 simp only at hob hid
 refine HC_of_body b_journal_put (by simp) ?_
 simp only [c_journal_put]
 try simp (disch := omega) only [go_sem, jA, jB, jC, jD, jE, jF, jG, jH, jI, jJ, ↓reduceIte, reduceCtorEq, jO, jM, jN, jK, jL]
 refine awp_upG [0, 1, 8, 9, 10, 11, 12, 13, 14, 15, 16, 17] (by kernel_rfl) k (fun i e σ => e 8 = .int .i64 i ∧ σ.n = n0 ∧ (∃ g', e 0 = .sl id g' 1 0 (L.length + i) ∧ σ.ob id = some ⟨g', 1, tyB, false, true, u8s (L ++ putB x i)⟩) ∧ e 1 = .int .i64 (x / 256 ^ i) ∧ ∀ j, j < n0 → j ≠ id → σ.ob j = ob0 j) ?_ ?_
 ·refine ⟨(by first | rfl | (simp (disch := omega) only [go_sem, jA, jB, jC, jD, jE, jF, jG, jH, jI, jJ, ↓reduceIte, reduceCtorEq, jP, jO, jM, jN]; try rfl)), rfl, ⟨g, (by first | rfl | (simp (disch := omega) only [go_sem, jA, jB, jC, jD, jE, jF, jG, jH, jI, jJ, ↓reduceIte, reduceCtorEq, jP, jO, jM, jN]; try rfl)), by simp [putB]; exact hob⟩, ?_, fun j _ _ => rfl⟩
  simp [upd]
 rintro i fe ob m c hi hm ⟨h8, rfl, ⟨g', h0, ho⟩, h1, hf⟩
 simp (maxSteps := 1000000) only [go_sem, jA, jB, jC, jD, jE, jF, jG, jH, jI, jJ, ↓reduceIte, reduceCtorEq, jP] at h8 h0 ho h1 hf
 have hpl := putB_length i x
 have hul : (u8s (L ++ putB x i)).length = L.length + i := by rw [u8s_length, List.length_append, hpl]
 try simp (disch := omega) only [go_sem, jA, jB, jC, jD, jE, jF, jG, jH, jI, jJ, ↓reduceIte, reduceCtorEq, jO, jM, jN, jK, jL, h8]
 refine cond_d (fun hlt => ?_) (fun hge => ?_)
 ·have hik : i < k := by omega
  have hsh := bit_shr8 (x / 256 ^ i)
  try simp (disch := omega) only [go_sem, jA, jB, jC, jD, jE, jF, jG, jH, jI, jJ, ↓reduceIte, reduceCtorEq, jO, jM, jN, jK, jL, h8, h0, h1, ho, hul, wrap_u8, hsh, mxL]
  refine ⟨by omega, by omega, ?_⟩
  refine up_nextG m hik (by omega) ⟨(by first | rfl | (simp (disch := omega) only [go_sem, jA, jB, jC, jD, jE, jF, jG, jH, jI, jJ, ↓reduceIte, reduceCtorEq, jP, jO, jM, jN]; try rfl)), rfl, ⟨c, ?_, ?_⟩, ?_, fun j hj hne => ?_⟩
  ·simp [upd]; omega
  ·rw [tr_ob (by omega), upd_same, u8s_snoc, List.append_assoc, ← putB_snoc]
  ·simp only [upd, ↓reduceIte, reduceCtorEq]
   simp [upd]
   rw [Int.ediv_ediv_of_nonneg (by exact Int.pow_nonneg (by omega)), Int.pow_succ]
  ·rw [tr_ob (by omega), upd_ne _ _ _ _ hne]; exact hf j hj hne
 obtain rfl : i = k := by omega
 try simp (disch := omega) only [go_sem, jA, jB, jC, jD, jE, jF, jG, jH, jI, jJ, ↓reduceIte, reduceCtorEq, jO, jM, jN, jK, jL, h0]
 exact ⟨g', by rw [List.length_append, hpl], rfl, ho, hf⟩
theorem ok_journal_get (s : ByteArray) (h5 : s.size ≤ 5) : PC prog n_journal_get [.str s] (.int .i64 (getL (sb s))) := by
 refine PC_of_body b_journal_get (by simp) ?_
 simp only [c_journal_get]
 try simp (disch := omega) only [go_sem, jA, jB, jC, jD, jE, jF, jG, jH, jI, jJ, ↓reduceIte, reduceCtorEq, jO, jM, jN, jK, jL]
 refine awp_upF [3, 4, 8, 9, 10, 11, 12, 13, 14, 15, 16, 17, 18] (by kernel_rfl) s.size (fun r e _ => e 4 = .int .i64 ((s.size : Int) - 1 - r) ∧ e 3 = .int .i64 (getL ((sb s).drop (s.size - r)))) ?_ ?_
 ·refine ⟨by simp [go_sem], ?_⟩
  try simp (maxSteps := 1000000) only [go_sem, jA, jB, jC, jD, jE, jF, jG, jH, jI, jJ, ↓reduceIte, reduceCtorEq, jP]
  rw [List.drop_of_length_le (by rw [sb_length]; omega)]; rfl
 rintro r fe ob c hr ⟨h4, h3⟩
 simp (maxSteps := 1000000) only [go_sem, jA, jB, jC, jD, jE, jF, jG, jH, jI, jJ, ↓reduceIte, reduceCtorEq, jP] at h4 h3
 try simp (disch := omega) only [go_sem, jA, jB, jC, jD, jE, jF, jG, jH, jI, jJ, ↓reduceIte, reduceCtorEq, jO, jM, jN, jK, jL, h4]
 refine cond_d (fun hlt => ?_) (fun hge => ?_)
 ·have hrs : r < s.size := by omega
  generalize hi : s.size - 1 - r = i at *
  have hi2 : s.size - r = i + 1 := by omega
  have hii : (s.size : Int) - 1 - r = (i : Int) := by omega
  have hnx : getL ((sb s).drop (s.size - (r + 1))) = (sb s).getD i 0 + 256 * getL ((sb s).drop (i + 1)) := by
   rw [show s.size - (r + 1) = i by omega, drop_getD _ _ (by rw [sb_length]; omega), getL]
  have hb := getL_bd ((sb s).drop (i + 1)) (fun x hx => sb_bd s x (List.mem_of_mem_drop hx))
  have hlen : ((sb s).drop (i + 1)).length ≤ 4 := by rw [List.length_drop, sb_length]; omega
  have hb2 := pow256 _ hlen
  rw [hi2] at h3
  generalize getL ((sb s).drop (i + 1)) = y at *
  have hx := sb_getD_bd s i
  simp only [hii] at h4 ⊢
  have hsi := sidxN s i (by omega)
  try simp (disch := omega) only [go_sem, jA, jB, jC, jD, jE, jF, jG, jH, jI, jJ, ↓reduceIte, reduceCtorEq, jO, jM, jN, jK, jL, h4, h3, bit_shl8, Option.some.injEq, exists_eq_left', Int.toNat_natCast, hsi]
  generalize (sb s).getD i 0 = x at *
  try simp (disch := omega) only [go_sem, jA, jB, jC, jD, jE, jF, jG, jH, jI, jJ, ↓reduceIte, reduceCtorEq, jO, jM, jN, jK, jL, h4, h3, bit_or8, Option.some.injEq, exists_eq_left']
  refine up_next hrs ⟨?_, ?_⟩
  ·try simp (disch := omega) only [go_sem, jA, jB, jC, jD, jE, jF, jG, jH, jI, jJ, ↓reduceIte, reduceCtorEq, jO, jM, jN, jK, jL]; congr 1; omega
  ·try simp (disch := omega) only [go_sem, jA, jB, jC, jD, jE, jF, jG, jH, jI, jJ, ↓reduceIte, reduceCtorEq, jO, jM, jN, jK, jL, hnx]
   congr 1; omega
 ·try simp (disch := omega) only [go_sem, jA, jB, jC, jD, jE, jF, jG, jH, jI, jJ, ↓reduceIte, reduceCtorEq, jO, jM, jN, jK, jL, h3]
  rw [show s.size - r = 0 by omega]
  exact Pub.of_eq rfl rfl
theorem encL_len (r : Rc) : (encL r).length ≤ 31 := by
 have h := offs_len r.k
 have h2 : ∀ l : List Int, (l.flatMap fun n => putB n 5).length = 5 * l.length := fun l => by
  induction l with
  | nil => rfl
  | cons a l ih => rw [List.flatMap_cons, List.length_append, putB_length, ih, List.length_cons]; omega
 rw [encL, List.length_append, putB_length, h2, numsR, List.length_map]
 omega
def encI (r : Rc) (i : Nat) : List Int := putB r.k 1 ++ ((numsR r).take i).flatMap fun n => putB n 5
theorem encI_len (r : Rc) (i : Nat) : (encI r i).length ≤ 31 := by
 have h := offs_len r.k
 have h2 : ∀ l : List Int, (l.flatMap fun n => putB n 5).length = 5 * l.length := fun l => by
  induction l with
  | nil => rfl
  | cons a l ih => rw [List.flatMap_cons, List.length_append, putB_length, ih, List.length_cons]; omega
 rw [encI, List.length_append, putB_length, h2, List.length_take, numsR, List.length_map]
 omega
theorem encI_all (r : Rc) : encI r (numsR r).length = encL r := by rw [encI, List.take_length]; rfl
theorem encI_snoc (r : Rc) (i : Nat) (h : i < (numsR r).length) : encI r (i + 1) = encI r i ++ putB (numsR r)[i] 5 := by
 rw [encI, encI, take_snocA _ _ h, List.flatMap_append, List.append_assoc]; rw [List.flatMap_cons, List.flatMap_nil, List.append_nil]
theorem bs_u8 (l : List Int) : (⟨(l.map fun n => UInt8.ofNat n.toNat).toArray⟩ : ByteArray) = bs l := rfl
theorem encS_size (r : Rc) : (encS r).size ≤ 35 := by
 have := encL_len r
 rw [encS, show (bs (encL r ++ putB (sumS (bs (encL r))) 4)).size = (encL r ++ putB (sumS (bs (encL r))) 4).length by simp [bs, ByteArray.size], List.length_append, putB_length]
 omega
theorem ok_journal_Encode (r : Rc) (hr : r.sg.length ≤ 9223372036854775807) : PC prog n_journal_Encode [rcv r] (.tuple [.str (encR r).1, .int .i64 (encR r).2]) := by
 have hfl := rcX_flat (E := .list 1 (ints r.sg)) r rfl
 have hN := ok_journal_numbers r hr
 have hpr : (rcX (.list 1 (ints r.sg)) r).pur = true := rfl
 refine PC_of_body b_journal_Encode (by simp) ?_
 simp only [c_journal_Encode, rcv] at hN ⊢
 try simp (disch := omega) only [go_sem, jA, jB, jC, jD, jE, jF, jG, jH, jI, jJ, ↓reduceIte, reduceCtorEq, jO, jM, jN, jK, jL, hfl, rcX_cells, rcX_dt, rcX_tk]
 refine call_pc hN (by simp [hpr]) ?_
 have hbad : validR r = false → ∀ σ : St, Pub σ (.tuple [.str ⟨#[]⟩, .int .i64 49]) (.tuple [.str (encR r).1, .int .i64 (encR r).2]) := fun h σ => by
  rw [encR, if_neg (by simp [h])]; exact Pub.pure rfl
 by_cases hne : offs r.k = []
 ·rw [numJ, if_pos hne]
  try simp (disch := omega) only [go_sem, jA, jB, jC, jD, jE, jF, jG, jH, jI, jJ, ↓reduceIte, reduceCtorEq, jO, jM, jN, jK, jL]
  exact hbad (by simp [validR, hne]) _
 by_cases hall : (numsR r).all vB = true
 ·rw [numJ, if_neg hne, if_pos hall]
  simp only
  cases hv : decide (bareR r (offs r.k) = r)
  ·try simp (disch := omega) only [go_sem, jA, jB, jC, jD, jE, jF, jG, jH, jI, jJ, ↓reduceIte, reduceCtorEq, jO, jM, jN, jK, jL]
   exact hbad (by simp only [validR, hv, Bool.and_false]) _
  have hva : validR r = true := by simp only [validR, hv, hall, Bool.and_true, decide_eq_true_eq]; exact hne
  have hkd := offs_kind hne
  try simp (disch := omega) only [go_sem, jA, jB, jC, jD, jE, jF, jG, jH, jI, jJ, ↓reduceIte, reduceCtorEq, jO, jM, jN, jK, jL, rcX_gd0, wrap_u8]
  have hoff := offs_len r.k
  have hnl : (numsR r).length = (offs r.k).length := by rw [numsR, List.length_map]
  have hpk : putB r.k 1 = [r.k % 256] := by simp [putB, List.range_succ]
  refine awp_upG [6, 8, 22, 23, 24, 25, 26, 27, 28, 29] (by kernel_rfl) (numsR r).length (fun i e σ => e 22 = .int .i64 i ∧ σ.n = 2 ∧ ∃ g', e 6 = .sl 1 g' 1 0 (encI r i).length ∧ σ.ob 1 = some ⟨g', 1, tyB, false, true, u8s (encI r i)⟩) ?_ ?_
  ·refine ⟨(by first | rfl | (simp (disch := omega) only [go_sem, jA, jB, jC, jD, jE, jF, jG, jH, jI, jJ, ↓reduceIte, reduceCtorEq, jP, jO, jM, jN]; try rfl)), rfl, 1, ?_, ?_⟩
   ·simp [upd, encI, hpk]
   ·simp only [upd, ↓reduceIte, encI, hpk, List.take_zero, List.flatMap_nil, List.append_nil]; rfl
  rintro i fe ob m c hi hm ⟨h22, rfl, g', h6, ho⟩
  simp (maxSteps := 1000000) only [go_sem, jA, jB, jC, jD, jE, jF, jG, jH, jI, jJ, ↓reduceIte, reduceCtorEq, jP] at h22 h6 ho
  have hil := encI_len r i
  try simp (disch := omega) only [go_sem, jA, jB, jC, jD, jE, jF, jG, jH, jI, jJ, ↓reduceIte, reduceCtorEq, jO, jM, jN, jK, jL, h22, ints_length]
  refine cond_d (fun hlt => ?_) (fun hge => ?_)
  ·have hik : i < (numsR r).length := by omega
   have hgi := ints_get (numsR r) i
   try simp (disch := omega) only [go_sem, jA, jB, jC, jD, jE, jF, jG, jH, jI, jJ, ↓reduceIte, reduceCtorEq, jO, jM, jN, jK, jL, h22, h6, ho, ints_length, hgi, List.getElem?_eq_getElem hik]
   refine ⟨by omega, by omega, HC.mono (hc_journal_put ⟨ob, 2, c⟩ 1 g' (encI r i) (numsR r)[i] 5 (by omega) (by omega) (by simp) ho) ?_⟩
   rintro r' ⟨ob', n', c'⟩ ⟨g2, rfl, hn', ho', hf'⟩
   simp only at hn' ho' hf'
   subst hn'
   try simp (disch := omega) only [go_sem, jA, jB, jC, jD, jE, jF, jG, jH, jI, jJ, ↓reduceIte, reduceCtorEq, jO, jM, jN, jK, jL]
   refine up_nextG _ hik (Nat.le_refl _) ⟨by simp [go_sem], rfl, g2, ?_, ?_⟩
   ·rw [encI_snoc r i hik]; simp [upd]
   ·rw [encI_snoc r i hik, tr_ob (by omega)]; exact ho'
  obtain rfl : i = (numsR r).length := by omega
  rw [encI_all] at h6 ho hil
  have htk : List.take (encL r).length (u8s (encL r)) = u8s (encL r) := List.take_of_length_le (by rw [u8s_length]; omega)
  have hul : (u8s (encL r)).length = (encL r).length := u8s_length _
  have hby := bytesL_u8 (encL r)
  try simp (disch := omega) only [go_sem, jA, jB, jC, jD, jE, jF, jG, jH, jI, jJ, ↓reduceIte, reduceCtorEq, jO, jM, jN, jK, jL, h6, ho, htk, hby, hul, Option.some.injEq, exists_eq_left', bs_u8]
  have hsz : (bs (encL r)).size = (encL r).length := by simp [bs, ByteArray.size]
  refine ⟨Nat.le_refl _, ?_⟩
  refine call_pc (ok_telemetry_Sum (bs (encL r)) (by omega)) (by simp [go_sem]) ?_
  try simp (disch := omega) only [go_sem, jA, jB, jC, jD, jE, jF, jG, jH, jI, jJ, ↓reduceIte, reduceCtorEq, jO, jM, jN, jK, jL]
  refine HC.mono (hc_journal_put ⟨ob, 2, c⟩ 1 g' (encL r) (sumS (bs (encL r))) 4 (by omega) (by omega) (by simp) ho) ?_
  rintro r' ⟨ob', n', c'⟩ ⟨g2, rfl, hn', ho', hf'⟩
  simp only at hn' ho' hf'
  subst hn'
  try simp (disch := omega) only [go_sem, jA, jB, jC, jD, jE, jF, jG, jH, jI, jJ, ↓reduceIte, reduceCtorEq, jO, jM, jN, jK, jL, ho']
  rw [List.take_of_length_le (by rw [u8s_length]; omega)]
  refine ⟨by rw [u8s_length]; omega, _, bytesL_u8 _, ?_⟩
  rw [bs_u8, encR, if_pos hva]
  exact Pub.pure rfl
 ·rw [numJ, if_neg hne, if_neg hall]
  try simp (disch := omega) only [go_sem, jA, jB, jC, jD, jE, jF, jG, jH, jI, jJ, ↓reduceIte, reduceCtorEq, jO, jM, jN, jK, jL]
  exact hbad (by simp [validR, hall]) _
theorem sidx_int (s : ByteArray) (a : Int) (h0 : 0 ≤ a) (h1 : a < s.size) : ∃ n : Nat, a = n ∧ n < s.size := ⟨a.toNat, by omega, by omega⟩
theorem putR_snoc : ∀ (l : List Nat) (vs : List Int) (b : Rc) (o : Nat) (v : Int), l.length = vs.length → putR b (l ++ [o]) (vs ++ [v]) = sI (putR b l vs) o v
 | [], [], b, o, v, _ => rfl
 | p :: l, w :: vs, b, o, v, h => putR_snoc l vs _ o v (by simpa using h)
 | [], _ :: _, _, _, _, h => by simp at h
 | _ :: _, [], _, _, _, h => by simp at h
theorem putR_sg : ∀ (l : List Nat) (vs : List Int) (b : Rc), b.sg = [] → (∀ o ∈ l, okO o) → (putR b l vs).sg = []
 | [], _, b, h, _ => by simpa [putR] using h
 | _ :: _, [], b, h, _ => by simpa [putR] using h
 | o :: l, v :: vs, b, h, hl => putR_sg l vs _ (by rw [sI_sg _ (hl o (by simp))]; exact h) fun x hx => hl x (by simp [hx])
theorem numsAt_succ (s : ByteArray) (a k : Nat) : numsAt s a (k + 1) = numsAt s a k ++ [getS s (a + 1 + 5 * k) 5] := by simp [numsAt, List.range_succ]
theorem numsAt_length (s : ByteArray) (a k : Nat) : (numsAt s a k).length = k := by simp [numsAt]
theorem sb_extract (s : ByteArray) (a b : Nat) : sb (s.extract a b) = ((sb s).drop a).take (b - a) := by
 simp [sb, List.map_take, List.map_drop]
theorem cI_sI (r : Rc) {o : Nat} (h : okO o) (v : Int) : cI (sI r o v) o = v := by
 rcases okO_cases h with rfl | rfl | rfl | rfl | rfl | rfl | rfl | rfl | rfl | rfl | rfl | rfl | rfl | rfl | rfl | rfl | rfl | rfl <;> rfl
theorem jget (s : ByteArray) (a k : Nat) (h : a + k ≤ s.size) (h5 : k ≤ 5) : PC prog n_journal_get [.str (s.extract a (a + k))] (.int .i64 (getS s a k)) := by
 have := ok_journal_get (s.extract a (a + k)) (by simp; omega)
 rwa [sb_extract, show a + k - a = k by omega] at this
theorem getS_bd (s : ByteArray) (a k : Nat) (h : k ≤ 5) : 0 ≤ getS s a k ∧ getS s a k < 1099511627776 := by
 have h1 := getL_bd (((sb s).drop a).take k) fun x hx => sb_bd s x (List.mem_of_mem_drop (List.mem_of_mem_take hx))
 have h2 : (((sb s).drop a).take k).length ≤ 5 := by rw [List.length_take]; omega
 have h3 : ∀ q : Nat, q ≤ 5 → (256 : Int) ^ q ≤ 1099511627776 := by decide
 exact ⟨h1.1, Int.lt_of_lt_of_le h1.2 (h3 _ h2)⟩
theorem ok_journal_Decode (s : ByteArray) (a : Int) (hs : s.size ≤ 4611686018427387904) : PC prog n_journal_Decode [.str s, .int .i64 a] (decV s a) := by
 refine PC_of_body b_journal_Decode (by simp) ?_
 simp only [c_journal_Decode, decV]
 have hbk := rck_fold
 have bad : ∀ (σ : St) (e : Int), decR s a = (rc0 0, 0, e) → Pub σ (.tuple [rcX .nil (rc0 0), .int .i64 0, .int .i64 e]) (.tuple [rcv (decR s a).1, .int .i64 (decR s a).2.1, .int .i64 (decR s a).2.2]) := fun σ e h => by
  rw [h]; exact Pub.tu (.cons (rcN_pub rfl) (.cons (Pub.e rfl) (.cons (Pub.e rfl) .nil)))
 have hfl : ∀ q, (rcX .nil q).flat = true := fun q => rcX_flat q rfl
 try simp (disch := omega) only [go_sem, jA, jB, jC, jD, jE, jF, jG, jH, jI, jJ, ↓reduceIte, reduceCtorEq, jO, jM, jN, jK, jL]
 refine gd_fd rfl (fun h1 => ?_) (fun h1 => ?_) <;> try simp (disch := omega) only [go_sem, jA, jB, jC, jD, jE, jF, jG, jH, jI, jJ, ↓reduceIte, reduceCtorEq, jO, jM, jN, jK, jL, hbk, hfl, rcX_cells, rcX_rep, rcX_tk]
 ·refine bad _ 1 (by rw [decR, if_pos (.inl h1)])
 refine cond_d (fun h2 => ?_) (fun h2 => ?_) <;> try simp (disch := omega) only [go_sem, jA, jB, jC, jD, jE, jF, jG, jH, jI, jJ, ↓reduceIte, reduceCtorEq, jO, jM, jN, jK, jL, hbk, hfl, rcX_cells, rcX_rep, rcX_tk]
 ·refine bad _ 1 (by rw [decR, if_pos (.inr h2)])
 refine cond_d (fun h3 => ?_) (fun h3 => ?_) <;> try simp (disch := omega) only [go_sem, jA, jB, jC, jD, jE, jF, jG, jH, jI, jJ, ↓reduceIte, reduceCtorEq, jO, jM, jN, jK, jL, hbk, hfl, rcX_cells, rcX_rep, rcX_tk]
 ·refine bad _ 7 (by rw [decR, if_neg (by omega), if_pos h3])
 obtain ⟨n, rfl, hn⟩ := sidx_int s a (by omega) (by omega)
 have hD : decR s n = decN s n := by rw [decR, if_neg (by omega), if_neg (by omega)]; rfl
 rw [hD] at bad ⊢
 have hsi := sidxN s n hn
 have hkb := sb_getD_bd s n
 try simp (disch := omega) only [go_sem, jA, jB, jC, jD, jE, jF, jG, jH, jI, jJ, ↓reduceIte, reduceCtorEq, jO, jM, jN, jK, jL, hsi, Option.some.injEq, exists_eq_left', Int.toNat_natCast, hbk, hfl, rcX_cells, rcX_rep, rcX_gd0]
 generalize hk : (sb s).getD n 0 = k at *
 refine (hc_journal_fields _ 1 1).mono ?_
 rintro r1 ⟨ob1, n1, c1⟩ ⟨M, gm, L, rfl, hn1, ho1, hM, hKo, hF⟩
 have u0 := ho1 0 (by simp only; omega)
 have u1 := ho1 1 (by simp only; omega)
 simp only at hn1 ho1 hM
 try simp (disch := omega) only [go_sem, jA, jB, jC, jD, jE, jF, jG, jH, jI, jJ, ↓reduceIte, reduceCtorEq, jO, jM, jN, jK, jL] at u0
 try simp (disch := omega) only [go_sem, jA, jB, jC, jD, jE, jF, jG, jH, jI, jJ, ↓reduceIte, reduceCtorEq, jO, jM, jN, jK, jL] at u1
 try simp (disch := omega) only [go_sem, jA, jB, jC, jD, jE, jF, jG, jH, jI, jJ, ↓reduceIte, reduceCtorEq, jO, jM, jN, jK, jL, hM, u1, rcX_gd0, hKo]
 have hkk : (rc0 k).k = k := rfl
 rw [hkk]
 have hdN : decN s n = if offs k = [] then (rc0 0, 0, 49) else if s.size < n + 1 + 5 * (offs k).length + 4 then (rc0 0, 0, 7) else
   if getS s (n + 1 + 5 * (offs k).length) 4 ≠ sumS (s.extract n (n + 1 + 5 * (offs k).length)) then (rc0 0, 0, 8) else
   if (numsAt s n (offs k).length).all vB then (madeR k (numsAt s n (offs k).length), ((n + 1 + 5 * (offs k).length + 4 : Nat) : Int), 0) else (rc0 0, 0, 49) := by
  simp only [decN, hk]; rfl
 rcases hF k with ⟨hg, he⟩ | ⟨i1, g1, hg, hne, hi1, hi1', hi1o⟩
 ·try simp (disch := omega) only [go_sem, jA, jB, jC, jD, jE, jF, jG, jH, jI, jJ, ↓reduceIte, reduceCtorEq, jO, jM, jN, jK, jL, hg, u0, hbk, hfl, rcX_cells, rcX_rep, rcX_tk]
  refine bad _ 49 (by rw [hdN, if_pos he])
 rw [if_neg hne] at hdN
 have h6 := offs_len k
 have hofl : ((offs k).map fun o => AV.ptr 1 1 21 0 o).length = (offs k).length := List.length_map ..
 simp only at hi1 hi1' hi1o
 clear ho1 hF hsi
 try simp (disch := omega) only [go_sem, jA, jB, jC, jD, jE, jF, jG, jH, jI, jJ, ↓reduceIte, reduceCtorEq, jO, jM, jN, jK, jL, hg, u0, hbk, hfl, rcX_cells, rcX_rep, rcX_tk]
 obtain ⟨p, hp⟩ : ∃ p : Nat, p = n + 1 + 5 * (offs k).length := ⟨_, rfl⟩
 have hpi : (n : Int) + 1 + 5 * (offs k).length = p := by omega
 rw [← hp] at hdN
 simp only [hpi]
 refine cond_d (fun h4 => ?_) (fun h4 => ?_) <;> try simp (disch := omega) only [go_sem, jA, jB, jC, jD, jE, jF, jG, jH, jI, jJ, ↓reduceIte, reduceCtorEq, jO, jM, jN, jK, jL, u0, hbk, hfl, rcX_cells, rcX_rep, rcX_tk]
 ·refine bad _ 7 (by rw [hdN, if_pos (by omega)])
 rw [if_neg (by omega)] at hdN
 have hn1' : p + 4 ≤ s.size := by omega
 have e1 : ((p : Int) + 4).toNat = p + 4 := by omega
 have e2 : (p : Int).toNat = p := by omega
 have e3 : (n : Int).toNat = n := by omega
 try simp (disch := omega) only [go_sem, jA, jB, jC, jD, jE, jF, jG, jH, jI, jJ, ↓reduceIte, reduceCtorEq, jO, jM, jN, jK, jL, e1, e2, e3]
 refine ⟨by omega, by omega, by omega, by omega, by omega, by omega, call_pc (jget s p 4 hn1' (by omega)) (by simp [go_sem]) ?_⟩
 try simp (disch := omega) only [go_sem, jA, jB, jC, jD, jE, jF, jG, jH, jI, jJ, ↓reduceIte, reduceCtorEq, jO, jM, jN, jK, jL, e1, e2, e3]
 refine call_pc (ok_telemetry_Sum (s.extract n p) (by simp; omega)) (by simp [go_sem]) ?_
 try simp (disch := omega) only [go_sem, jA, jB, jC, jD, jE, jF, jG, jH, jI, jJ, ↓reduceIte, reduceCtorEq, jO, jM, jN, jK, jL]
 refine cond_n (fun h5 => ?_) (fun h5 => ?_) <;> try simp (disch := omega) only [go_sem, jA, jB, jC, jD, jE, jF, jG, jH, jI, jJ, ↓reduceIte, reduceCtorEq, jO, jM, jN, jK, jL, u0, hbk, hfl, rcX_cells, rcX_rep, rcX_tk]
 ·refine bad _ 8 (by rw [hdN, if_pos h5])
 rw [if_neg (by omega)] at hdN
 have h20 : @At = @At := rfl
 refine awp_upG [5, 6, 11, 12, 13, 70, 71, 72, 73, 74, 75, 76, 77, 78, 79, 80, 81, 82, 83, 84, 85, 86, 87, 88, 89, 90, 91, 92, 93] (by kernel_rfl) (offs k).length (fun i e σ => e 70 = .int .i64 i ∧ σ.n = n1 ∧ σ.ob 0 = some ⟨0, 21, 41, false, true, [rcX .nil (rc0 0)]⟩ ∧ σ.ob i1 = some ⟨g1, 1, tyF, false, true, (offs k).map fun o => .ptr 1 1 21 0 o⟩ ∧
  σ.ob 1 = some ⟨1, 21, 41, false, true, [rcX .nil (putR (rc0 k) ((offs k).take i) (numsAt s n i))]⟩ ∧ (numsAt s n i).all vB = true) ?_ ?_
 ·exact ⟨(by first | rfl | (simp (disch := omega) only [go_sem, jA, jB, jC, jD, jE, jF, jG, jH, jI, jJ, ↓reduceIte, reduceCtorEq, jP, jO, jM, jN]; try rfl)), rfl, u0, hi1o, u1, rfl⟩
 clear u0 u1 hi1o
 rintro i fe ob m c hi hm ⟨h70, rfl, v0, v1, v2, hall⟩
 simp (maxSteps := 1000000) only [go_sem, jA, jB, jC, jD, jE, jF, jG, jH, jI, jJ, ↓reduceIte, reduceCtorEq, jP] at h70 v0 v1 v2
 try simp (disch := omega) only [go_sem, jA, jB, jC, jD, jE, jF, jG, jH, jI, jJ, ↓reduceIte, reduceCtorEq, jO, jM, jN, jK, jL, h70]
 refine cond_d (fun hlt => ?_) (fun hge => ?_)
 ·have hil : i < (offs k).length := by omega
  have hgo : (offs k)[i]? = some (offs k)[i] := List.getElem?_eq_getElem hil
  have hok : okO (offs k)[i] := offs_ok (List.getElem_mem hil)
  have htk : (offs k).take (i + 1) = (offs k).take i ++ [(offs k)[i]] := take_snocA _ _ hil
  generalize (offs k)[i] = o at *
  have q1 : ((offs k).map fun o => AV.ptr 1 1 21 0 o)[i]? = some (.ptr 1 1 21 0 o) := by rw [List.getElem?_map, hgo]; rfl
  have ho21 : o + 1 ≤ 21 := by unfold okO at hok; omega
  have hst := rcX_set .nil (putR (rc0 k) ((offs k).take i) (numsAt s n i)) hok (getS s (n + 1 + 5 * i) 5)
  obtain ⟨j, hj⟩ : ∃ j : Nat, j = n + 1 + 5 * i := ⟨_, rfl⟩
  have hji : (n : Int) + 1 + 5 * i = j := by omega
  have e4 : ((j : Int) + 5).toNat = j + 5 := by omega
  have e5 : (j : Int).toNat = j := by omega
  rw [← hj] at hst
  try simp (disch := omega) only [go_sem, jA, jB, jC, jD, jE, jF, jG, jH, jI, jJ, ↓reduceIte, reduceCtorEq, jO, jM, jN, jK, jL, h70, v1, q1, hofl, hji, e4, e5]
  refine ⟨by omega, by omega, by omega, by omega, by omega, call_pc (jget s j 5 (by omega) (by omega)) (by simp [go_sem]) ?_⟩
  have hgd := rcX_gd .nil (sI (putR (rc0 k) ((offs k).take i) (numsAt s n i)) o (getS s j 5)) hok
  have hci : cI (sI (putR (rc0 k) ((offs k).take i) (numsAt s n i)) o (getS s j 5)) o = getS s j 5 := cI_sI _ hok _
  have hb5 := getS_bd s j 5 (by omega)
  try simp (disch := omega) only [go_sem, jA, jB, jC, jD, jE, jF, jG, jH, jI, jJ, ↓reduceIte, reduceCtorEq, jO, jM, jN, jK, jL, v0, v1, v2, hst, hgd, hci]
  refine ⟨by omega, by omega, ?_⟩
  refine cond_d (fun h7 => ?_) (fun h7 => ?_) <;> try simp (disch := omega) only [go_sem, jA, jB, jC, jD, jE, jF, jG, jH, jI, jJ, ↓reduceIte, reduceCtorEq, jO, jM, jN, jK, jL, v0, v1, v2, hbk, hfl, rcX_cells, rcX_rep, rcX_tk]
  ·have hbadv : (numsAt s n (offs k).length).all vB = false := by
    rw [List.all_eq_false]
    refine ⟨getS s j 5, List.mem_map.2 ⟨i, List.mem_range.2 hil, by rw [hj]⟩, ?_⟩
    simp [vB]; omega
   refine bad _ 49 (by rw [hdN, hbadv, if_neg (by simp)])
  try simp (disch := omega) only [go_sem, jA, jB, jC, jD, jE, jF, jG, jH, jI, jJ, ↓reduceIte, reduceCtorEq, jO, jM, jN, jK, jL, h70]
  simp only at hi1' hn1
  refine up_nextG m hil (Nat.le_refl _) ⟨(by first | rfl | (simp (disch := omega) only [go_sem, jA, jB, jC, jD, jE, jF, jG, jH, jI, jJ, ↓reduceIte, reduceCtorEq, jP, jO, jM, jN]; try rfl)), rfl, ?_, ?_, ?_, ?_⟩
  ·rw [tr_ob (show 0 < m by omega), upd_ne _ _ _ _ (by omega)]; exact v0
  ·rw [tr_ob (show i1 < m by omega), upd_ne _ _ _ _ (by omega)]; exact v1
  ·rw [tr_ob (show 1 < m by omega), upd_same, htk, numsAt_succ, putR_snoc _ _ _ _ _ (by rw [numsAt_length, List.length_take]; omega), ← hj]
  ·rw [numsAt_succ, List.all_append, hall, ← hj]; simp [vB]; omega
 obtain rfl : i = (offs k).length := by omega
 rw [List.take_length] at v2
 rw [if_pos hall] at hdN
 try simp (disch := omega) only [go_sem, jA, jB, jC, jD, jE, jF, jG, jH, jI, jJ, ↓reduceIte, reduceCtorEq, jO, jM, jN, jK, jL, v0, v2, hfl, rcX_cells, rcX_tk, rcX_rep, rcX_dt]
 refine ⟨rfl, rfl, ?_⟩
 rw [hdN]
 have e9 : (p : Int) + 4 = (p + 4 : Nat) := by omega
 rw [e9]
 exact Pub.tu (.cons (rcN_pub (putR_sg _ _ _ rfl fun o ho => offs_ok ho)) (.cons (Pub.e rfl) (.cons (Pub.e rfl) .nil)))
theorem ok_journal_Append (s : ByteArray) (r : Rc) (hs : s.size ≤ 4611686018427387904) (hr : r.sg.length ≤ 9223372036854775807) : PC prog n_journal_Append [.str s, rcv r] (.tuple [.str (appR s r).1, .int .i64 (appR s r).2]) := by
 have hE := ok_journal_Encode r hr
 have hfl := rcX_flat (E := .list 1 (ints r.sg)) r rfl
 have hpr : (rcX (.list 1 (ints r.sg)) r).pur = true := rfl
 have hsz := encS_size r
 refine PC_of_body b_journal_Append (by simp) ?_
 simp only [c_journal_Append, rcv] at hE ⊢
 try simp (disch := omega) only [go_sem, jA, jB, jC, jD, jE, jF, jG, jH, jI, jJ, ↓reduceIte, reduceCtorEq, jO, jM, jN, jK, jL, hfl, rcX_cells, rcX_dt, rcX_tk]
 refine call_pc hE (by simp [hpr]) ?_
 cases hv : validR r
 ·rw [encR, appR, hv]
  try simp (disch := omega) only [go_sem, jA, jB, jC, jD, jE, jF, jG, jH, jI, jJ, ↓reduceIte, reduceCtorEq, jO, jM, jN, jK, jL]
  exact Pub.pure rfl
 ·rw [encR, appR, hv]
  try simp (disch := omega) only [go_sem, jA, jB, jC, jD, jE, jF, jG, jH, jI, jJ, ↓reduceIte, reduceCtorEq, jO, jM, jN, jK, jL]
  refine ⟨by omega, Pub.pure rfl⟩
def cutS (s : ByteArray) (k : Int) : ByteArray := s.extract 0 (min (max k 0) s.size).toNat
theorem ok_journal_cut (s : ByteArray) (k : Int) : PC prog n_journal_cut [.str s, .int .i64 k] (.str (cutS s k)) := by
 refine PC_of_body b_journal_cut (by simp) ?_
 simp only [c_journal_cut, cutS]
 try simp (disch := omega) only [go_sem, jA, jB, jC, jD, jE, jF, jG, jH, jI, jJ, ↓reduceIte, reduceCtorEq, jO, jM, jN, jK, jL]
 exact ⟨by omega, by omega, Pub.pure rfl⟩
def crashS (s : ByteArray) (k m : Int) : ByteArray := cutS s k ++ cutS (s.extract (cutS s k).size s.size) m
theorem ok_journal_Crash (s : ByteArray) (k m : Int) (hs : s.size ≤ 4611686018427387904) : PC prog n_journal_Crash [.str s, .int .i64 k, .int .i64 m] (.str (crashS s k m)) := by
 refine PC_of_body b_journal_Crash (by simp) ?_
 simp only [c_journal_Crash, crashS]
 try simp (disch := omega) only [go_sem, jA, jB, jC, jD, jE, jF, jG, jH, jI, jJ, ↓reduceIte, reduceCtorEq, jO, jM, jN, jK, jL]
 refine call_pc (ok_journal_cut s k) (by simp [go_sem]) ?_
 try simp (disch := omega) only [go_sem, jA, jB, jC, jD, jE, jF, jG, jH, jI, jJ, ↓reduceIte, reduceCtorEq, jO, jM, jN, jK, jL]
 have h1 : (cutS s k).size ≤ s.size := by simp [cutS]; omega
 have h2 : (cutS (s.extract (cutS s k).size s.size) m).size ≤ s.size - (cutS s k).size := by
  generalize (cutS s k).size = q
  simp [cutS]; omega
 refine ⟨by omega, by omega, call_pc (ok_journal_cut _ m) (by simp [go_sem]) ?_⟩
 try simp (disch := omega) only [go_sem, jA, jB, jC, jD, jE, jF, jG, jH, jI, jJ, ↓reduceIte, reduceCtorEq, jO, jM, jN, jK, jL]
 exact ⟨by omega, Pub.pure rfl⟩
def openG (s : ByteArray) : Nat → Int → List Rc × Int
 | 0, a => ([], a)
 | f + 1, a => if (decR s a).2.2 ≠ 0 then ([], a) else ((decR s a).1 :: (openG s f (decR s a).2.1).1, (openG s f (decR s a).2.1).2)
def openS (s : ByteArray) : List Rc × Int := openG s s.size 0
theorem decR_ok (s : ByteArray) (a : Int) (h : (decR s a).2.2 = 0) : 0 ≤ a ∧ a + 5 ≤ (decR s a).2.1 ∧ (decR s a).2.1 ≤ s.size := by
 unfold decR at h ⊢
 split
 ·rename_i h1; rw [if_pos h1] at h; simp at h
 ·rename_i h1
  rw [if_neg h1] at h
  split
  ·rename_i h2; rw [if_pos h2] at h; simp at h
  ·rename_i h2
   rw [if_neg h2] at h
   unfold decN at h ⊢
   simp only at h ⊢
   generalize hk : (sb s).getD a.toNat 0 = k at h ⊢
   by_cases c1 : offs k = []
   ·rw [if_pos c1] at h; simp at h
   rw [if_neg c1] at h ⊢
   by_cases c2 : s.size < a.toNat + 1 + 5 * (offs k).length + 4
   ·rw [if_pos c2] at h; simp at h
   rw [if_neg c2] at h ⊢
   by_cases c3 : getS s (a.toNat + 1 + 5 * (offs k).length) 4 ≠ sumS (s.extract a.toNat (a.toNat + 1 + 5 * (offs k).length))
   ·rw [if_pos c3] at h; simp at h
   rw [if_neg c3] at h ⊢
   by_cases c4 : (numsAt s a.toNat (offs k).length).all vB = true
   ·rw [if_pos c4]; simp only; omega
   ·rw [if_neg c4] at h; simp at h
theorem openG_bd (s : ByteArray) : ∀ (f : Nat) (a : Int), 0 ≤ a → a ≤ s.size → (openG s f a).1.length ≤ s.size - a.toNat
 | 0, a, _, _ => by simp [openG]
 | f + 1, a, h0, h1 => by
  rw [openG]
  split
  ·simp
  ·rename_i h
   have hd := decR_ok s a (by simpa using h)
   have := openG_bd s f (decR s a).2.1 (by omega) hd.2.2
   simp only [List.length_cons]; omega
theorem ok_journal_Open (s : ByteArray) (hs : s.size ≤ 100000000000) : PC prog n_journal_Open [.str s] (.tuple [.list 21 (rcs (openS s).1), .int .i64 (openS s).2]) := by
 refine PC_of_body b_journal_Open (by simp) ?_
 simp only [c_journal_Open]
 try simp (disch := omega) only [go_sem, jA, jB, jC, jD, jE, jF, jG, jH, jI, jJ, ↓reduceIte, reduceCtorEq, jO, jM, jN, jK, jL]
 have hb := openG_bd s s.size 0 (by omega) (by omega)
 refine awp_upG [2, 3, 4, 5, 6, 7, 8, 9, 10, 11, 12, 13, 14, 15, 16, 17, 18, 19, 20, 21, 22, 23, 24] (by kernel_rfl) (openS s).1.length (fun i e σ => ∃ l f a, l.length = i ∧ openS s = (l ++ (openG s f a).1, (openG s f a).2) ∧ 0 ≤ a ∧ a ≤ s.size ∧ (s.size : Int) - a ≤ f ∧ e 5 = .int .i64 a ∧ ∃ X, At e 4 X ∧ SlR 21 41 σ (rcs l) X) ?_ ?_
 ·exact ⟨[], s.size, 0, rfl, rfl, by omega, by omega, by omega, (by first | rfl | (simp (disch := omega) only [go_sem, jA, jB, jC, jD, jE, jF, jG, jH, jI, jJ, ↓reduceIte, reduceCtorEq, jP, jO, jM, jN]; try rfl)), .nil, (by simp only [At]; try simp (disch := omega) only [go_sem, jA, jB, jC, jD, jE, jF, jG, jH, jI, jJ, ↓reduceIte, reduceCtorEq, jO, jM, jN, jK, jL]), SlR.nil⟩
 rintro i fe ob m c hi hm ⟨l, f, a, rfl, hO, h0, h1, hf, h5, X, h4, hX⟩
 simp (maxSteps := 1000000) only [go_sem, jA, jB, jC, jD, jE, jF, jG, jH, jI, jJ, ↓reduceIte, reduceCtorEq, jP, At] at h5 h4
 try simp (disch := omega) only [go_sem, jA, jB, jC, jD, jE, jF, jG, jH, jI, jJ, ↓reduceIte, reduceCtorEq, jO, jM, jN, jK, jL, h5]
 refine call_pc (ok_journal_Decode s a (by omega)) (by simp [go_sem]) ?_
 rw [decV]
 have hbk := rck_fold
 have hrep : ∀ q p, setc 0 (rcv q) (rcX .nil p) = rcv q := fun _ _ => rfl
 have htk : ∀ q, AV.agg ((rcv q).cells.take 21) = rcv q := fun _ => rfl
 have htc : ∀ q, (rcv q).cells.take 21 = (rcv q).cells := fun _ => rfl
 have htl : ∀ q, (rcv q).cells.length = 21 := fun _ => rfl
 have htf : ∀ q, (rcv q).flat = true := fun _ => rfl
 have hac : ∀ q, AV.agg (rcv q).cells = rcv q := fun _ => rfl
 have hfr : ∀ v j, j < m → upd ob m v j = ob j := fun v j h => upd_ne _ _ _ _ (by omega)
 have hto : ∀ q, (rcv q).cells.all AV.one = true := fun _ => rfl
 have htp : ∀ q, (rcv q).cells.all AV.pur1 = true := fun _ => rfl
 try simp (disch := omega) only [go_sem, jA, jB, jC, jD, jE, jF, jG, jH, jI, jJ, ↓reduceIte, reduceCtorEq, jO, jM, jN, jK, jL, hbk, hrep, htf, htl]
 refine cond_n (fun h7 => ?_) (fun h7 => ?_) <;> try simp (disch := omega) only [go_sem, jA, jB, jC, jD, jE, jF, jG, jH, jI, jJ, ↓reduceIte, reduceCtorEq, jO, jM, jN, jK, jL, h4, h5, hbk, hrep, htk, htc, htl, htf, hto, htp, hac, upd_upd]
 ·have he : openG s f a = ([], a) := by
   cases f with
   | zero => rfl
   | succ f => rw [openG, if_pos h7]
  rw [hO, he, List.append_nil]
  exact Pub.tu (.cons (hX.pub (fun j hj _ => hfr _ j hj) (rcs_pur _) (fun x hx => rcs_ok _ x hx)) (.cons (Pub.e rfl) .nil))
 have h7' : (decR s a).2.2 = 0 := by simpa using h7
 have hd := decR_ok s a h7'
 obtain ⟨f, rfl⟩ : ∃ f', f = f' + 1 := ⟨f - 1, by omega⟩
 rw [openG, if_neg (by simp [h7'])] at hO
 have hbd := openG_bd s f (decR s a).2.1 (by omega) hd.2.2
 have hll : l.length + ((openG s f (decR s a).2.1).1.length + 1) = (openS s).1.length := by rw [hO]; simp
 have hle : (openS s).1.length ≤ s.size := by have : openS s = openG s s.size 0 := rfl; rw [this]; simp at hb; omega
 refine app_slr (b := 184) (hX.move (Nat.le_succ _) fun j hj _ => hfr _ j hj) (by rw [rcs_length]; omega) (by rw [rcs_length]; omega) fun Y τ hY kY => ?_
 obtain ⟨ob5, m5, c5⟩ := τ
 try simp (disch := omega) only [go_sem, jA, jB, jC, jD, jE, jF, jG, jH, jI, jJ, ↓reduceIte, reduceCtorEq, jO, jM, jN, jK, jL]
 refine up_nextG m5 (by omega) (Nat.zero_le _) ⟨l ++ [(decR s a).1], f, (decR s a).2.1, by simp, ?_, by omega, hd.2.2, by omega, (by first | rfl | (simp (disch := omega) only [go_sem, jA, jB, jC, jD, jE, jF, jG, jH, jI, jJ, ↓reduceIte, reduceCtorEq, jP, jO, jM, jN]; try rfl)), Y, (by simp only [At]; try simp (disch := omega) only [go_sem, jA, jB, jC, jD, jE, jF, jG, jH, jI, jJ, ↓reduceIte, reduceCtorEq, jO, jM, jN, jK, jL]), ?_⟩
 ·rw [hO, List.append_assoc]; rfl
 ·rw [show rcs (l ++ [(decR s a).1]) = rcs l ++ [rcv (decR s a).1] by simp [rcs]]
  exact hY.tr
end Go.Proofs.Try
