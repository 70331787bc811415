/-
  OWN WORK, put together by tools/asm.py: what functions do.
-/
import Derived.Test.YtmdcopjppbpepaaCode
set_option linter.unusedSimpArgs false
set_option linter.unusedVariables false
set_option maxRecDepth 100000
set_option maxHeartbeats 1000000
namespace Go.Proofs.Try
open Go.Ab Go
theorem tmod_mod (n k : Int) (hk : 0 < k) : (n.tmod k + k).tmod k = n % k := by
  have h2 := Int.tmod_eq_emod (a := n) (b := k)
  have h3 := Int.emod_nonneg n (show k ≠ 0 by omega)
  have h4 := Int.emod_lt_of_pos n hk
  have h5 : 0 ≤ n.tmod k + k := by rw [h2]; split <;> omega
  rw [Int.tmod_eq_emod_of_nonneg h5, Int.add_emod_right, h2]
  split
  · simp
  · rw [show ((k.natAbs : Nat) : Int) = k by omega, Int.sub_emod_right]; exact Int.emod_emod_of_dvd n (Int.dvd_refl k)
theorem tmod_bd (n k : Int) (hk : 0 < k) : -k < n.tmod k ∧ n.tmod k < k := by
  have h2 := Int.tmod_eq_emod (a := n) (b := k)
  have h3 := Int.emod_nonneg n (show k ≠ 0 by omega)
  have h4 := Int.emod_lt_of_pos n hk
  by_cases h : 0 ≤ n ∨ k ∣ n
  · rw [if_pos h] at h2; omega
  · rw [if_neg h] at h2
    have : n % k ≠ 0 := fun h0 => h (.inr (Int.dvd_of_emod_eq_zero h0))
    omega
def ints (l : List Int) : List AV := l.map (.int .i64)
theorem ints_length (l : List Int) : (ints l).length = l.length := by simp [ints]
theorem ints_get (l : List Int) (i : Nat) : (ints l)[i]? = (l[i]?).map (AV.int .i64) := by simp [ints]
theorem ints_append (l r : List Int) : ints l ++ ints r = ints (l ++ r) := by simp [ints]
theorem ints_pur (l : List Int) : ∀ x ∈ ints l, x.pur = true := by simp [ints, go_sem]
theorem ints_ok (l : List Int) : ∀ x ∈ ints l, okE 1 x := by simp [ints, okE, go_sem]
/-- two numbers that are bounds -/
structure Bd where
  lo : Int
  hi : Int
  deriving DecidableEq, Inhabited
def bdv (b : Bd) : AV := .agg [.int .i64 b.lo, .int .i64 b.hi]
def bds (l : List Bd) : List AV := l.map bdv
theorem bds_length (l : List Bd) : (bds l).length = l.length := by simp [bds]
theorem bds_get (l : List Bd) (i : Nat) : (bds l)[i]? = (l[i]?).map bdv := by simp [bds]
theorem bds_append (l r : List Bd) : bds l ++ bds r = bds (l ++ r) := by simp [bds]
theorem bds_pur (l : List Bd) : ∀ x ∈ bds l, x.pur = true := by simp [bds, bdv, go_sem]
theorem bds_ok (l : List Bd) : ∀ x ∈ bds l, okE 2 x := by simp [bds, bdv, okE, go_sem]
/-- the index of the first element with p; -1 -/
def firstIdx {α : Type} (p : α → Bool) (l : List α) : Int := match l.findIdx? p with | some i => (i : Int) | none => -1
theorem firstIdx_at {α : Type} (p : α → Bool) (l : List α) (k : Nat) (hk : k < l.length) (h1 : ∀ j, j < k → ∀ x, l[j]? = some x → p x = false) (h2 : p l[k] = true) : firstIdx p l = k := by
  have : l.findIdx? p = some k := by
    rw [List.findIdx?_eq_some_iff_getElem]
    exact ⟨hk, h2, fun j hj => by have := h1 j hj l[j] (List.getElem?_eq_getElem _); simp [this]⟩
  simp [firstIdx, this]
theorem firstIdx_none {α : Type} (p : α → Bool) (l : List α) (h1 : ∀ j, j < l.length → ∀ x, l[j]? = some x → p x = false) : firstIdx p l = -1 := by
  have : l.findIdx? p = none := by
    rw [List.findIdx?_eq_none_iff]
    intro x hx
    obtain ⟨j, hj⟩ := List.getElem?_of_mem hx
    exact h1 j (List.getElem?_eq_some_iff.1 hj).1 x hj
  simp [firstIdx, this]
theorem firstIdx_any {α : Type} (p : α → Bool) (l : List α) : decide (0 ≤ firstIdx p l) = l.any p := by
  unfold firstIdx
  cases h : l.findIdx? p with
  | none =>
    rw [List.findIdx?_eq_none_iff] at h
    have : l.any p = false := by rw [List.any_eq_false]; intro x hx; simpa using h x hx
    rw [this]; simp
  | some i =>
    obtain ⟨hi, h1, _⟩ := List.findIdx?_eq_some_iff_getElem.1 h
    have : l.any p = true := List.any_eq_true.2 ⟨_, List.getElem_mem hi, h1⟩
    rw [this]; simp
theorem lt_snoc {α : Type} {l : List α} {k : Nat} {P : α → Prop} (hj : ∀ j, j < k → ∀ x, l[j]? = some x → P x) (hk : k < l.length) (h : P l[k]) : ∀ j, j < k + 1 → ∀ x, l[j]? = some x → P x := by
  intro j hj' x hx
  by_cases e : j = k
  · subst e; rw [List.getElem?_eq_getElem hk] at hx; obtain rfl := Option.some.inj hx; exact h
  · exact hj j (by omega) x hx
def flow1 (n : Int) : Bool := decide (0 ≤ n) && decide (n ≤ 1073741824)
theorem flow1_iff (n : Int) : flow1 n = true ↔ 0 ≤ n ∧ n ≤ 1073741824 := by simp [flow1]
/-- f, k times -/
def runS {α : Type} (f : α → α) (b : α) : Nat → α
  | 0 => b
  | k + 1 => f (runS f b k)
/-- what the first k times give, one behind the other -/
def pathS {α : Type} (f : α → α) (b : α) (k : Nat) : List α := (List.range k).map fun i => runS f b (i + 1)
theorem pathS_zero {α : Type} (f : α → α) (b : α) : pathS f b 0 = [] := rfl
theorem pathS_succ {α : Type} (f : α → α) (b : α) (k : Nat) : pathS f b (k + 1) = pathS f b k ++ [runS f b (k + 1)] := by simp [pathS, List.range_succ]
theorem pathS_length {α : Type} (f : α → α) (b : α) (k : Nat) : (pathS f b k).length = k := by simp [pathS]
theorem pathS_get {α : Type} (f : α → α) (b : α) (k i : Nat) (h : i < k) : (pathS f b k)[i]? = some (runS f b (i + 1)) := by simp [pathS, h]
theorem ints_snoc (l : List Int) (n : Int) : ints l ++ [.int .i64 n] = ints (l ++ [n]) := by simp [ints]
theorem ok_mk_Mod (n k : Int) (hk : 0 < k) (hk2 : k ≤ 4611686018427387904) : PC prog n_mk_Mod [.int .i64 n, .int .i64 k] (.int .i64 (n % k)) := by
  have h1 := tmod_bd n k hk
  refine PC_of_body b_mk_Mod (by simp) ?_
  simp (disch := omega) only [c_mk_Mod, go_sem, Int.reduceEq, Int.reduceLT, Int.reduceLE, Int.reduceToNat, Nat.reduceLT, Nat.reduceEqDiff, Nat.reduceAdd, Nat.reduceLeDiff, Nat.reduceSub, Nat.reduceMul, ↓reduceIte, reduceCtorEq, w_app_nl, wrap_id]
  exact ⟨by omega, by omega, Pub.of_eq (by rw [tmod_mod n k hk]) rfl⟩
/-- A deck: its numbers, and how many are drawn. -/
def deckV (l : List Int) (at' : Nat) : AV := .agg [.list 1 (ints l), .int .i64 at']
def deckR (l : List Int) (at' : Nat) (n : Int) : Int × Nat := if n < 1 ∨ l.length ≤ at' then (0, at') else (l.getD at' 0 % n, at' + 1)
theorem deckR_bd (l : List Int) (at' : Nat) (n : Int) : 0 ≤ (deckR l at' n).1 ∧ ((deckR l at' n).1 = 0 ∨ (deckR l at' n).1 < n) := by
  unfold deckR
  split
  · simp
  · have h1 := Int.emod_nonneg (l.getD at' 0) (show n ≠ 0 by omega)
    have h2 := Int.emod_lt_of_pos (l.getD at' 0) (show 0 < n by omega)
    exact ⟨h1, .inr h2⟩
theorem deckR_at (l : List Int) (at' : Nat) (n : Int) (h : at' ≤ l.length) : (deckR l at' n).2 ≤ l.length := by
  unfold deckR; split <;> simp <;> omega
theorem upd_self {α : Type} (f : Nat → α) (i : Nat) (x : α) (h : f i = x) : upd f i x = f := by
  funext j; by_cases e : j = i
  · subst e; rw [upd_same, h]
  · rw [upd_ne _ _ _ _ e]
abbrev ty_Deck : TypeId := 64
theorem ok_mk_New (σ : St) (l : List Int) : HC prog n_mk_New [.list 1 (ints l)] σ (fun r σ' => r = .ptr σ.n σ.c 2 0 0 ∧ σ' = σ.push 2 ty_Deck [deckV l 0]) := by
  refine HC_of_body b_mk_New (by simp) ?_
  simp only [c_mk_New, go_sem, Int.reduceEq, Int.reduceLT, Int.reduceLE, Int.reduceToNat, Nat.reduceLT, Nat.reduceEqDiff, Nat.reduceAdd, Nat.reduceLeDiff, Nat.reduceSub, Nat.reduceMul, ↓reduceIte, reduceCtorEq, w_app_nl]
  simp [deckV]
theorem ok_mk_Deck_Next (σ : St) (id g : Nat) (ty : TypeId) (ap : Bool) (l : List Int) (at' : Nat) (n : Int) (hob : σ.ob id = some ⟨g, 2, ty, false, ap, [deckV l at']⟩) (hn : n ≤ 4611686018427387904) (hl : l.length ≤ 9223372036854775807) :
    HC prog n_mk_Deck_Next [.ptr id g 2 0 0, .int .i64 n] σ (fun r σ' => r = .int .i64 (deckR l at' n).1 ∧ σ' = ⟨upd σ.ob id (some ⟨g, 2, ty, false, ap, [deckV l (deckR l at' n).2]⟩), σ.n, σ.c⟩) := by
  obtain ⟨ob, nn, cc⟩ := σ
  simp only at hob
  refine HC_of_body b_mk_Deck_Next (by simp) ?_
  simp only [c_mk_Deck_Next, go_sem, Int.reduceEq, Int.reduceLT, Int.reduceLE, Int.reduceToNat, Nat.reduceLT, Nat.reduceEqDiff, Nat.reduceAdd, Nat.reduceLeDiff, Nat.reduceSub, Nat.reduceMul, ↓reduceIte, reduceCtorEq, w_app_nl, hob, deckV]
  have no : (n < 1 ∨ l.length ≤ at') → AV.int IntKind.i64 0 = AV.int IntKind.i64 (deckR l at' n).fst ∧ St.mk ob nn cc = St.mk (upd ob id (some ⟨g, 2, ty, false, ap, [.agg [.list 1 (ints l), .int .i64 (deckR l at' n).2]]⟩)) nn cc := by
    intro h
    rw [show deckR l at' n = (0, at') by unfold deckR; rw [if_pos h]]
    exact ⟨rfl, by have h1 := upd_self ob id _ hob; simp only [deckV] at h1 ⊢; rw [h1]⟩
  refine gd_fd rfl (fun h => ?_) (fun h => ?_) <;> simp (maxSteps := 1000000) only [go_sem, Int.reduceEq, Int.reduceLT, Int.reduceLE, Int.reduceToNat, Nat.reduceLT, Nat.reduceEqDiff, Nat.reduceAdd, Nat.reduceLeDiff, Nat.reduceSub, Nat.reduceMul, ↓reduceIte, reduceCtorEq, w_app_nl, hob, deckV, ints_length]
  · exact no (.inl h)
  refine cond_d (fun h2 => ?_) (fun h2 => ?_) <;> simp (maxSteps := 1000000) only [go_sem, Int.reduceEq, Int.reduceLT, Int.reduceLE, Int.reduceToNat, Nat.reduceLT, Nat.reduceEqDiff, Nat.reduceAdd, Nat.reduceLeDiff, Nat.reduceSub, Nat.reduceMul, ↓reduceIte, reduceCtorEq, w_app_nl, hob, deckV, ints_length, ints_get]
  · exact no (.inr (by omega))
  have hat : at' < l.length := by omega
  have hg : l[at']? = some l[at'] := List.getElem?_eq_getElem hat
  have hd : deckR l at' n = (l[at'] % n, at' + 1) := by unfold deckR; rw [if_neg (by omega)]; simp [List.getD_eq_getElem?_getD, hg]
  simp (maxSteps := 1000000) (disch := omega) only [go_sem, Int.reduceEq, Int.reduceLT, Int.reduceLE, Int.reduceToNat, Nat.reduceLT, Nat.reduceEqDiff, Nat.reduceAdd, Nat.reduceLeDiff, Nat.reduceSub, Nat.reduceMul, ↓reduceIte, reduceCtorEq, w_app_nl, hg, wrap_id]
  refine ⟨by omega, by omega, call_pc (ok_mk_Mod _ n (by omega) (by omega)) (by simp [go_sem]) ?_⟩
  simp (maxSteps := 1000000) only [go_sem, Int.reduceEq, Int.reduceLT, Int.reduceLE, Int.reduceToNat, Nat.reduceLT, Nat.reduceEqDiff, Nat.reduceAdd, Nat.reduceLeDiff, Nat.reduceSub, Nat.reduceMul, ↓reduceIte, reduceCtorEq, w_app_nl, hd]
  simp
theorem upd_upd {α : Type} (f : Nat → α) (i : Nat) (x y : α) : upd (upd f i x) i y = upd f i y := by funext j; by_cases e : j = i <;> simp [upd, e]
/-- A new object with these elements, behind one that is forgotten. -/
def NewSl (σ : St) (es : Nat) (ty : TypeId) (l : List AV) (r : AV) (σ' : St) : Prop := ∃ g c, r = .sl (σ.n + 1) g es 0 l.length ∧ σ' = ⟨upd (upd σ.ob σ.n none) (σ.n + 1) (some ⟨g, es, ty, false, true, l⟩), σ.n + 2, c⟩
def NewSl1 (σ : St) (es : Nat) (ty : TypeId) (l : List AV) (r : AV) (σ' : St) : Prop := ∃ g c o, r = .sl (σ.n + 1) g es 0 l.length ∧ σ' = ⟨upd (upd σ.ob σ.n (some o)) (σ.n + 1) (some ⟨g, es, ty, false, true, l⟩), σ.n + 2, c⟩
theorem HC.new {f : Nat} {args : List AV} {σ : St} {es : Nat} {ty : TypeId} {l : List AV} (h : HC prog f args σ (NewSl1 σ es ty l)) : HC prog f args σ (NewSl σ es ty l) := by
  refine h.sub ?_
  rintro r σ' ⟨g, c, o, rfl, rfl⟩
  refine ⟨_, ?_, g, c, rfl, rfl⟩
  intro i o' h
  simp only [upd] at h ⊢
  split at h
  · rename_i hi; rw [if_pos hi]; exact h
  · rename_i hi
    rw [if_neg hi]
    split at h
    · cases h
    · rename_i h2; rw [if_neg h2]; exact h
/-- A new object; what there was is as it was. -/
def NewO (σ : St) (es : Nat) (ty : TypeId) (L : List AV) (r : AV) (τ : St) : Prop := ∃ id g, r = .sl id g es 0 L.length ∧ σ.n ≤ id ∧ id < τ.n ∧ τ.ob id = some ⟨g, es, ty, false, true, L⟩ ∧ ∀ i, i < σ.n → τ.ob i = σ.ob i
/-! A slice that is appended to: nil, or an object of its own. -/
/-- X does not name object i -/
def Oth (X : AV) (i : Nat) : Prop := ∀ g es o n, X ≠ .sl i g es o n
def SlR (es : Nat) (ty : TypeId) (σ : St) (L : List AV) (X : AV) : Prop := (X = .nil ∧ L = []) ∨ ∃ id g, X = .sl id g es 0 L.length ∧ id < σ.n ∧ σ.ob id = some ⟨g, es, ty, false, true, L⟩
theorem Oth.nil (i : Nat) : Oth .nil i := fun _ _ _ _ h => by cases h
theorem Oth.ne {id g es o n i : Nat} (h : Oth (.sl id g es o n) i) : ¬ id = i := fun e => h _ _ _ _ (by rw [e])
theorem Oth.sl {id g es o n i : Nat} (h : ¬ id = i) : Oth (.sl id g es o n) i := fun _ _ _ _ hh => by cases hh; exact h rfl
/-- What becomes of the rest of the store when X is appended to. -/
def Kp (σ : St) (X : AV) (τ : St) (X' : AV) : Prop := σ.n ≤ τ.n ∧ (∀ i, i < σ.n → Oth X i → τ.ob i = σ.ob i) ∧ ∀ i, i < σ.n → Oth X i → Oth X' i
theorem Kp.trans {σ τ ρ : St} {X Y Z : AV} (h : Kp σ X τ Y) (k : Kp τ Y ρ Z) : Kp σ X ρ Z :=
  ⟨Nat.le_trans h.1 k.1, fun i hi hx => (k.2.1 i (Nat.lt_of_lt_of_le hi h.1) (h.2.2 i hi hx)).trans (h.2.1 i hi hx), fun i hi hx => k.2.2 i (Nat.lt_of_lt_of_le hi h.1) (h.2.2 i hi hx)⟩
section
variable {es : Nat} {ty : TypeId} {σ τ : St} {L : List AV} {X : AV}
theorem SlR.nil : SlR es ty σ [] .nil := .inl ⟨rfl, rfl⟩
theorem SlR.one (h : SlR es ty σ L X) : X.one = true := by rcases h with ⟨rfl, _⟩ | ⟨id, g, rfl, _⟩ <;> rfl
theorem SlR.flat (h : SlR es ty σ L X) : X.flat = true := by rcases h with ⟨rfl, _⟩ | ⟨id, g, rfl, _⟩ <;> rfl
theorem SlR.cells (h : SlR es ty σ L X) : X.cells = [X] := by rcases h with ⟨rfl, _⟩ | ⟨id, g, rfl, _⟩ <;> rfl
theorem SlR.move (h : SlR es ty σ L X) (hn : σ.n ≤ τ.n) (ho : ∀ i, i < σ.n → ¬ Oth X i → τ.ob i = σ.ob i) : SlR es ty τ L X := by
  rcases h with h | ⟨id, g, rfl, h2, h3⟩
  · exact .inl h
  · exact .inr ⟨id, g, rfl, Nat.lt_of_lt_of_le h2 hn, by rw [ho id h2 (fun h => h _ _ _ _ rfl)]; exact h3⟩
theorem SlR.oth (h : SlR es ty σ L X) {i : Nat} (hi : σ.n ≤ i) : Oth X i := by
  rcases h with ⟨rfl, _⟩ | ⟨id, g, rfl, h2, _⟩
  · exact Oth.nil i
  · exact Oth.sl (by omega)
theorem SlR.pub (h : SlR es ty σ L X) (ho : ∀ i, i < σ.n → ¬ Oth X i → τ.ob i = σ.ob i) (hp : ∀ x ∈ L, x.pur = true) (hk : ∀ x ∈ L, okE es x) : Pub τ X (.list es L) := by
  rcases h with ⟨rfl, rfl⟩ | ⟨id, g, rfl, h2, h3⟩
  · exact .nl es
  · exact Pub.of_sl (by rw [ho id h2 (fun h => h _ _ _ _ rfl)]; exact h3) rfl hp hk
/-- One more element. -/
theorem app_slr {b : Nat} {a : AV} {K : AV → St → Prop} (h : SlR es ty σ L X) (hm : L.length + 1 ≤ 9223372036854775807) (hb : (L.length + 1) * b ≤ 140737488355328)
    (k : ∀ X' τ, SlR es ty τ (L ++ [a]) X' → Kp σ X τ X' → K X' τ) : appC es b ty X (.list es [a]) σ K := by
  rcases h with ⟨rfl, rfl⟩ | ⟨id, g, rfl, h2, h3⟩
  · rw [w_app_nl]
    simp only [List.length_nil, Nat.zero_add] at hb
    refine ⟨by simp [maxLen], by simpa using hb, fun h => by simp at h, fun _ => k _ _ (.inr ⟨σ.n, σ.c, rfl, Nat.lt_succ_self _, by simp [St.push, upd]⟩) ⟨Nat.le_succ _, fun i hi _ => ?_, fun i hi _ => Oth.sl (by omega)⟩⟩
    simp only [St.push]; rw [upd_ne _ _ _ _ (by omega)]
  · rw [w_app_ll]
    refine ⟨_, h3, rfl, rfl, rfl, rfl, rfl, rfl, by rw [mxL]; simpa using hm, by simpa using hb, k _ _ (.inr ⟨id, σ.c, by simp, h2, by simp [St.renew, upd]⟩) ⟨Nat.le_refl _, fun i hi hx => ?_, fun i hi hx => Oth.sl hx.ne⟩⟩
    simp only [St.renew]
    rw [upd_ne _ _ _ _ (fun e => hx.ne e.symm)]
/-- Any elements appended. -/
theorem app_slrs {b : Nat} {M : List AV} {K : AV → St → Prop} (h : SlR es ty σ L X) (hm : L.length + M.length ≤ 9223372036854775807) (hb : (L.length + M.length) * b ≤ 140737488355328)
    (k : ∀ X' τ, SlR es ty τ (L ++ M) X' → Kp σ X τ X' → K X' τ) : appC es b ty X (.list es M) σ K := by
  rcases h with ⟨rfl, rfl⟩ | ⟨id, g, rfl, h2, h3⟩
  · rw [w_app_nl]
    simp only [List.length_nil, Nat.zero_add] at hm hb
    refine ⟨by rw [mxL]; omega, hb, fun h => k _ _ (.inl ⟨rfl, by rw [h]; rfl⟩) ⟨Nat.le_refl _, fun _ _ _ => rfl, fun _ _ h => h⟩, fun _ => k _ _ (.inr ⟨σ.n, σ.c, rfl, Nat.lt_succ_self _, by simp [St.push, upd]⟩) ⟨Nat.le_succ _, fun i hi _ => ?_, fun i hi _ => Oth.sl (by omega)⟩⟩
    simp only [St.push]; rw [upd_ne _ _ _ _ (by omega)]
  · rw [w_app_ll]
    refine ⟨_, h3, rfl, rfl, rfl, rfl, rfl, rfl, by rw [mxL]; exact hm, hb, k _ _ (.inr ⟨id, σ.c, by simp, h2, by simp [St.renew, upd]⟩) ⟨Nat.le_refl _, fun i hi hx => ?_, fun i hi hx => Oth.sl hx.ne⟩⟩
    simp only [St.renew]
    rw [upd_ne _ _ _ _ (fun e => hx.ne e.symm)]
end
theorem NewO.slr {σ : St} {es : Nat} {ty : TypeId} {L : List AV} {r : AV} {τ : St} (h : NewO σ es ty L r τ) : SlR es ty τ L r ∧ σ.n ≤ τ.n ∧ (∀ i, i < σ.n → τ.ob i = σ.ob i) ∧ ∀ i, i < σ.n → Oth r i := by
  obtain ⟨id, g, rfl, h1, h2, h3, h4⟩ := h
  exact ⟨.inr ⟨id, g, rfl, h2, h3⟩, by omega, h4, fun i hi => Oth.sl (by omega)⟩
theorem pub_ptrless {σ : St} {a : AV} (h : a.pur = true) : Pub σ a a := .pure h
/-! nil, where a list is asked for -/
def NlR (a b : AV) : Prop := ∀ (S : Nat → Prop) (w : World) (v : Value), VP S w a v → VP S w b v
theorem NlR.rfl {a : AV} : NlR a a := fun _ _ _ h => h
theorem NlR.nil (es : Nat) : NlR .nil (.list es []) := fun S w v h => by cases h; exact .listNil _ _ _
inductive NlRs : List AV → List AV → Prop
  | nil : NlRs [] []
  | cons {a b : AV} {l r : List AV} (h : NlR a b) (k : NlRs l r) : NlRs (a :: l) (b :: r)
theorem NlRs.get {l r : List AV} (h : NlRs l r) : l.length = r.length ∧ ∀ (j : Nat) (y : AV), r[j]? = some y → ∃ x, l[j]? = some x ∧ NlR x y := by
  induction h with
  | nil => exact ⟨Eq.refl _, fun j y h => by simp at h⟩
  | cons h k ih =>
    refine ⟨by simp [ih.1], fun j y hy => ?_⟩
    cases j with
    | zero => simp at hy; subst hy; exact ⟨_, Eq.refl _, h⟩
    | succ j => exact ih.2 j y (by simpa using hy)
theorem NlRs.refl : ∀ (l : List AV), NlRs l l
  | [] => .nil
  | _ :: l => .cons .rfl (NlRs.refl l)
theorem NlR.agg {l r : List AV} (h : NlRs l r) : NlR (.agg l) (.agg r) := fun S w v hv => by
  cases hv with
  | agg hl hh =>
    refine .agg (by rw [hl, h.get.1]) fun j y u hy hu => ?_
    obtain ⟨x, hx, hxy⟩ := h.get.2 j y hy
    exact hxy S w u (hh j x u hx hu)
theorem pc_nl {P : Program} {f : Nat} {args args' : List AV} {r : AV} (h : PC P f args' r) (k : NlRs args args') : PC P f args r :=
  ⟨h.1, fun S w vs hlt hv => h.2 S w vs hlt ⟨by rw [hv.1, k.get.1], fun j y u hy hu => by obtain ⟨x, hx, hxy⟩ := k.get.2 j y hy; exact hxy S w u (hv.2 j x u hx hu)⟩⟩
/-- a reading; a frame -/
structure Rd where
  g : Int
  t : Int
  v : Int
  f : Int
  deriving DecidableEq, Inhabited
def rdv (r : Rd) : AV := .agg [.int .i64 r.g, .int .i64 r.t, .int .i64 r.v, .int .i64 r.f]
def rds (l : List Rd) : List AV := l.map rdv
theorem rds_length (l : List Rd) : (rds l).length = l.length := by simp [rds]
theorem rds_get (l : List Rd) (i : Nat) : (rds l)[i]? = (l[i]?).map rdv := by simp [rds]
theorem rds_pur (l : List Rd) : ∀ x ∈ rds l, x.pur = true := by simp [rds, rdv, go_sem]
theorem rds_ok (l : List Rd) : ∀ x ∈ rds l, okE 4 x := by simp [rds, rdv, okE, go_sem]
structure Fr where
  s : Int
  n : Int
  l : List Rd
def frv (f : Fr) : AV := .agg [.int .i64 f.s, .int .i64 f.n, .list 4 (rds f.l)]
def inB (x a b : Int) : Bool := decide (a ≤ x) && decide (x ≤ b)
def rdOk (r : Rd) : Bool := inB r.g 0 65535 && inB r.t 0 16777216 && inB r.v 0 274877906944 && inB r.f 0 2
def frOk (f : Fr) : Bool := inB f.s 0 255 && inB f.n 1 1073741824 && decide (f.l.length ≤ 32) && f.l.all rdOk
theorem ok_telemetry_within (x a b : Int) : PC prog n_telemetry_within [.int .i64 x, .int .i64 a, .int .i64 b] (.bool (inB x a b)) := by
  refine PC_of_body b_telemetry_within (by simp) ?_
  simp only [c_telemetry_within, go_sem, Int.reduceEq, Int.reduceLT, Int.reduceLE, Int.reduceToNat, Nat.reduceLT, Nat.reduceEqDiff, Nat.reduceAdd, Nat.reduceLeDiff, Nat.reduceSub, Nat.reduceMul, ↓reduceIte, reduceCtorEq, w_app_nl]
  refine gd_td rfl (fun h => ?_) (fun h => ?_) <;> simp (maxSteps := 1000000) only [go_sem, Int.reduceEq, Int.reduceLT, Int.reduceLE, Int.reduceToNat, Nat.reduceLT, Nat.reduceEqDiff, Nat.reduceAdd, Nat.reduceLeDiff, Nat.reduceSub, Nat.reduceMul, ↓reduceIte, reduceCtorEq, w_app_nl]
  all_goals exact Pub.of_eq (by simp [inB, *]) rfl
theorem ok_ref28_in (x a b : Int) : PC prog n_ref28_in [.int .i64 x, .int .i64 a, .int .i64 b] (.bool (inB x a b)) := by
  refine PC_of_body b_ref28_in (by simp) ?_
  simp only [c_ref28_in, go_sem, Int.reduceEq, Int.reduceLT, Int.reduceLE, Int.reduceToNat, Nat.reduceLT, Nat.reduceEqDiff, Nat.reduceAdd, Nat.reduceLeDiff, Nat.reduceSub, Nat.reduceMul, ↓reduceIte, reduceCtorEq, w_app_nl]
  refine gd_td rfl (fun h => ?_) (fun h => ?_) <;> simp (maxSteps := 1000000) only [go_sem, Int.reduceEq, Int.reduceLT, Int.reduceLE, Int.reduceToNat, Nat.reduceLT, Nat.reduceEqDiff, Nat.reduceAdd, Nat.reduceLeDiff, Nat.reduceSub, Nat.reduceMul, ↓reduceIte, reduceCtorEq, w_app_nl]
  all_goals exact Pub.of_eq (by simp [inB, *]) rfl
theorem ok_telemetry_proper (f : Fr) (hl : f.l.length ≤ 9223372036854775807) : PC prog n_telemetry_proper [frv f] (.bool (frOk f)) := by
  refine PC_of_body b_telemetry_proper (by simp) ?_
  simp only [c_telemetry_proper, go_sem, Int.reduceEq, Int.reduceLT, Int.reduceLE, Int.reduceToNat, Nat.reduceLT, Nat.reduceEqDiff, Nat.reduceAdd, Nat.reduceLeDiff, Nat.reduceSub, Nat.reduceMul, ↓reduceIte, reduceCtorEq, w_app_nl, frv]
  have no : ∀ {σ : St}, frOk f = false → Pub σ (.bool false) (.bool (frOk f)) := fun h => Pub.of_eq (by rw [h]) rfl
  refine call_pc (ok_telemetry_within _ _ _) (by simp [go_sem]) ?_
  try simp (maxSteps := 1000000) only [go_sem, Int.reduceEq, Int.reduceLT, Int.reduceLE, Int.reduceToNat, Nat.reduceLT, Nat.reduceEqDiff, Nat.reduceAdd, Nat.reduceLeDiff, Nat.reduceSub, Nat.reduceMul, ↓reduceIte, reduceCtorEq, w_app_nl]
  refine gd_f rfl (fun h1 => ?_) (fun h1 => ?_) <;> simp (maxSteps := 1000000) only [go_sem, Int.reduceEq, Int.reduceLT, Int.reduceLE, Int.reduceToNat, Nat.reduceLT, Nat.reduceEqDiff, Nat.reduceAdd, Nat.reduceLeDiff, Nat.reduceSub, Nat.reduceMul, ↓reduceIte, reduceCtorEq, w_app_nl]
  · exact no (by simp at h1; simp [frOk, h1])
  refine call_pc (ok_telemetry_within _ _ _) (by simp [go_sem]) ?_
  try simp (maxSteps := 1000000) only [go_sem, Int.reduceEq, Int.reduceLT, Int.reduceLE, Int.reduceToNat, Nat.reduceLT, Nat.reduceEqDiff, Nat.reduceAdd, Nat.reduceLeDiff, Nat.reduceSub, Nat.reduceMul, ↓reduceIte, reduceCtorEq, w_app_nl]
  refine gd_f rfl (fun h2 => ?_) (fun h2 => ?_) <;> simp (maxSteps := 1000000) only [go_sem, Int.reduceEq, Int.reduceLT, Int.reduceLE, Int.reduceToNat, Nat.reduceLT, Nat.reduceEqDiff, Nat.reduceAdd, Nat.reduceLeDiff, Nat.reduceSub, Nat.reduceMul, ↓reduceIte, reduceCtorEq, w_app_nl, rds_length]
  · exact no (by simp at h2; simp [frOk, h2])
  simp at h1 h2
  refine cond_d (fun h3 => ?_) (fun h3 => ?_) <;> simp (maxSteps := 1000000) only [go_sem, Int.reduceEq, Int.reduceLT, Int.reduceLE, Int.reduceToNat, Nat.reduceLT, Nat.reduceEqDiff, Nat.reduceAdd, Nat.reduceLeDiff, Nat.reduceSub, Nat.reduceMul, ↓reduceIte, reduceCtorEq, w_app_nl, rds_length]
  · exact no (by simp [frOk]; intros; omega)
  refine awp_upF [2, 4, 24, 25, 26, 27, 28, 29, 30, 31, 32, 33, 34, 35, 36, 37, 38, 39, 40, 41, 42, 43, 44, 45, 46, 47, 48, 49, 50] (by kernel_rfl) f.l.length (fun k e _ => e 24 = .int .i64 k ∧ ∀ j, j < k → ∀ x, f.l[j]? = some x → rdOk x = true) ?_ ?_
  · simp [go_sem]
  · rintro k fe ob c hk ⟨h24, hj⟩
    simp (maxSteps := 1000000) only [go_sem, Int.reduceEq, Int.reduceLT, Int.reduceLE, Int.reduceToNat, Nat.reduceLT, Nat.reduceEqDiff, Nat.reduceAdd, Nat.reduceLeDiff, Nat.reduceSub, Nat.reduceMul, ↓reduceIte, reduceCtorEq, w_app_nl] at h24
    simp (maxSteps := 1000000) only [go_sem, Int.reduceEq, Int.reduceLT, Int.reduceLE, Int.reduceToNat, Nat.reduceLT, Nat.reduceEqDiff, Nat.reduceAdd, Nat.reduceLeDiff, Nat.reduceSub, Nat.reduceMul, ↓reduceIte, reduceCtorEq, w_app_nl, h24, rds_length]
    refine cond_d (fun hlt => ?_) (fun hge => ?_)
    · have hkl : k < f.l.length := by omega
      have hk2 : f.l[k]? = some f.l[k] := List.getElem?_eq_getElem hkl
      have bad : rdOk f.l[k] = false → frOk f = false := fun h => by
        have : f.l.all rdOk = false := by rw [List.all_eq_false]; exact ⟨_, List.getElem_mem hkl, by simp [h]⟩
        simp [frOk, this]
      have nxt : rdOk f.l[k] = true → ∀ j, j < k + 1 → ∀ x, f.l[j]? = some x → rdOk x = true := fun h => lt_snoc hj hkl h
      generalize f.l[k] = x at *
      simp (maxSteps := 1000000) (disch := omega) only [go_sem, Int.reduceEq, Int.reduceLT, Int.reduceLE, Int.reduceToNat, Nat.reduceLT, Nat.reduceEqDiff, Nat.reduceAdd, Nat.reduceLeDiff, Nat.reduceSub, Nat.reduceMul, ↓reduceIte, reduceCtorEq, w_app_nl, wrap_id, h24, rds_length, rds_get, hk2, rdv]
      repeat (refine And.intro (by first | omega | (rw [mxL]; omega) | (simp [maxLen]; done) | (simp [maxLen]; omega)) ?_)
      refine call_pc (ok_telemetry_within _ _ _) (by simp [go_sem]) ?_
      try simp (maxSteps := 1000000) only [go_sem, Int.reduceEq, Int.reduceLT, Int.reduceLE, Int.reduceToNat, Nat.reduceLT, Nat.reduceEqDiff, Nat.reduceAdd, Nat.reduceLeDiff, Nat.reduceSub, Nat.reduceMul, ↓reduceIte, reduceCtorEq, w_app_nl]
      refine gd_f rfl (fun g1 => ?_) (fun g1 => ?_) <;> simp (maxSteps := 1000000) only [go_sem, Int.reduceEq, Int.reduceLT, Int.reduceLE, Int.reduceToNat, Nat.reduceLT, Nat.reduceEqDiff, Nat.reduceAdd, Nat.reduceLeDiff, Nat.reduceSub, Nat.reduceMul, ↓reduceIte, reduceCtorEq, w_app_nl]
      · exact no (bad (by simp at g1; simp [rdOk, g1]))
      refine call_pc (ok_telemetry_within _ _ _) (by simp [go_sem]) ?_
      try simp (maxSteps := 1000000) only [go_sem, Int.reduceEq, Int.reduceLT, Int.reduceLE, Int.reduceToNat, Nat.reduceLT, Nat.reduceEqDiff, Nat.reduceAdd, Nat.reduceLeDiff, Nat.reduceSub, Nat.reduceMul, ↓reduceIte, reduceCtorEq, w_app_nl]
      refine gd_f rfl (fun g2 => ?_) (fun g2 => ?_) <;> simp (maxSteps := 1000000) only [go_sem, Int.reduceEq, Int.reduceLT, Int.reduceLE, Int.reduceToNat, Nat.reduceLT, Nat.reduceEqDiff, Nat.reduceAdd, Nat.reduceLeDiff, Nat.reduceSub, Nat.reduceMul, ↓reduceIte, reduceCtorEq, w_app_nl]
      · exact no (bad (by simp at g2; simp [rdOk, g2]))
      refine call_pc (ok_telemetry_within _ _ _) (by simp [go_sem]) ?_
      try simp (maxSteps := 1000000) only [go_sem, Int.reduceEq, Int.reduceLT, Int.reduceLE, Int.reduceToNat, Nat.reduceLT, Nat.reduceEqDiff, Nat.reduceAdd, Nat.reduceLeDiff, Nat.reduceSub, Nat.reduceMul, ↓reduceIte, reduceCtorEq, w_app_nl]
      refine gd_f rfl (fun g3 => ?_) (fun g3 => ?_) <;> simp (maxSteps := 1000000) only [go_sem, Int.reduceEq, Int.reduceLT, Int.reduceLE, Int.reduceToNat, Nat.reduceLT, Nat.reduceEqDiff, Nat.reduceAdd, Nat.reduceLeDiff, Nat.reduceSub, Nat.reduceMul, ↓reduceIte, reduceCtorEq, w_app_nl]
      · exact no (bad (by simp at g3; simp [rdOk, g3]))
      refine call_pc (ok_telemetry_within _ _ _) (by simp [go_sem]) ?_
      try simp (maxSteps := 1000000) only [go_sem, Int.reduceEq, Int.reduceLT, Int.reduceLE, Int.reduceToNat, Nat.reduceLT, Nat.reduceEqDiff, Nat.reduceAdd, Nat.reduceLeDiff, Nat.reduceSub, Nat.reduceMul, ↓reduceIte, reduceCtorEq, w_app_nl]
      refine cond_split (fun g4 => ?_) (fun g4 => ?_) <;> simp (maxSteps := 1000000) (disch := omega) only [go_sem, Int.reduceEq, Int.reduceLT, Int.reduceLE, Int.reduceToNat, Nat.reduceLT, Nat.reduceEqDiff, Nat.reduceAdd, Nat.reduceLeDiff, Nat.reduceSub, Nat.reduceMul, ↓reduceIte, reduceCtorEq, w_app_nl, wrap_id, h24]
      · exact no (bad (by simp at g4; simp [rdOk, g4]))
      · simp at g1 g2 g3 g4
        exact up_next hkl ⟨(by first | ((try simp (maxSteps := 1000000) only [go_sem, Int.reduceEq, Int.reduceLT, Int.reduceLE, Int.reduceToNat, Nat.reduceLT, Nat.reduceEqDiff, Nat.reduceAdd, Nat.reduceLeDiff, Nat.reduceSub, Nat.reduceMul, ↓reduceIte, reduceCtorEq, w_app_nl]); done) | ((try simp (maxSteps := 1000000) only [go_sem, Int.reduceEq, Int.reduceLT, Int.reduceLE, Int.reduceToNat, Nat.reduceLT, Nat.reduceEqDiff, Nat.reduceAdd, Nat.reduceLeDiff, Nat.reduceSub, Nat.reduceMul, ↓reduceIte, reduceCtorEq, w_app_nl]); rfl) | ((try simp (maxSteps := 1000000) (disch := omega) only [go_sem, Int.reduceEq, Int.reduceLT, Int.reduceLE, Int.reduceToNat, Nat.reduceLT, Nat.reduceEqDiff, Nat.reduceAdd, Nat.reduceLeDiff, Nat.reduceSub, Nat.reduceMul, ↓reduceIte, reduceCtorEq, w_app_nl, wrap_id, w_ite_ne, w_ite_lt]); rfl) | (simp (maxSteps := 1000000) (disch := omega) only [go_sem, Int.reduceEq, Int.reduceLT, Int.reduceLE, Int.reduceToNat, Nat.reduceLT, Nat.reduceEqDiff, Nat.reduceAdd, Nat.reduceLeDiff, Nat.reduceSub, Nat.reduceMul, ↓reduceIte, reduceCtorEq, w_app_nl, wrap_id, w_ite_ne, w_ite_lt]; done)), nxt (by simp [rdOk, g1, g2, g3, g4])⟩
    · try simp (maxSteps := 1000000) only [go_sem, Int.reduceEq, Int.reduceLT, Int.reduceLE, Int.reduceToNat, Nat.reduceLT, Nat.reduceEqDiff, Nat.reduceAdd, Nat.reduceLeDiff, Nat.reduceSub, Nat.reduceMul, ↓reduceIte, reduceCtorEq, w_app_nl]
      refine Pub.of_eq ?_ rfl
      have : f.l.all rdOk = true := by
        rw [List.all_eq_true]; intro x hx
        obtain ⟨j, hj', rfl⟩ := List.getElem_of_mem hx
        exact hj j (by omega) _ (List.getElem?_eq_getElem hj')
      congr 1; simp [frOk, this, h1, h2]; omega
theorem ok_ref28_Valid (f : Fr) (hl : f.l.length ≤ 9223372036854775807) : PC prog n_ref28_Valid [frv f] (.bool (frOk f)) := by
  refine PC_of_body b_ref28_Valid (by simp) ?_
  simp only [c_ref28_Valid, go_sem, Int.reduceEq, Int.reduceLT, Int.reduceLE, Int.reduceToNat, Nat.reduceLT, Nat.reduceEqDiff, Nat.reduceAdd, Nat.reduceLeDiff, Nat.reduceSub, Nat.reduceMul, ↓reduceIte, reduceCtorEq, w_app_nl, frv]
  have no : ∀ {σ : St}, frOk f = false → Pub σ (.bool false) (.bool (frOk f)) := fun h => Pub.of_eq (by rw [h]) rfl
  refine call_pc (ok_ref28_in _ _ _) (by simp [go_sem]) ?_
  try simp (maxSteps := 1000000) only [go_sem, Int.reduceEq, Int.reduceLT, Int.reduceLE, Int.reduceToNat, Nat.reduceLT, Nat.reduceEqDiff, Nat.reduceAdd, Nat.reduceLeDiff, Nat.reduceSub, Nat.reduceMul, ↓reduceIte, reduceCtorEq, w_app_nl]
  refine gd_f rfl (fun h1 => ?_) (fun h1 => ?_) <;> simp (maxSteps := 1000000) only [go_sem, Int.reduceEq, Int.reduceLT, Int.reduceLE, Int.reduceToNat, Nat.reduceLT, Nat.reduceEqDiff, Nat.reduceAdd, Nat.reduceLeDiff, Nat.reduceSub, Nat.reduceMul, ↓reduceIte, reduceCtorEq, w_app_nl]
  · exact no (by simp at h1; simp [frOk, h1])
  refine call_pc (ok_ref28_in _ _ _) (by simp [go_sem]) ?_
  try simp (maxSteps := 1000000) only [go_sem, Int.reduceEq, Int.reduceLT, Int.reduceLE, Int.reduceToNat, Nat.reduceLT, Nat.reduceEqDiff, Nat.reduceAdd, Nat.reduceLeDiff, Nat.reduceSub, Nat.reduceMul, ↓reduceIte, reduceCtorEq, w_app_nl]
  refine gd_f rfl (fun h2 => ?_) (fun h2 => ?_) <;> simp (maxSteps := 1000000) only [go_sem, Int.reduceEq, Int.reduceLT, Int.reduceLE, Int.reduceToNat, Nat.reduceLT, Nat.reduceEqDiff, Nat.reduceAdd, Nat.reduceLeDiff, Nat.reduceSub, Nat.reduceMul, ↓reduceIte, reduceCtorEq, w_app_nl, rds_length]
  · exact no (by simp at h2; simp [frOk, h2])
  simp at h1 h2
  refine cond_d (fun h3 => ?_) (fun h3 => ?_) <;> simp (maxSteps := 1000000) only [go_sem, Int.reduceEq, Int.reduceLT, Int.reduceLE, Int.reduceToNat, Nat.reduceLT, Nat.reduceEqDiff, Nat.reduceAdd, Nat.reduceLeDiff, Nat.reduceSub, Nat.reduceMul, ↓reduceIte, reduceCtorEq, w_app_nl, rds_length]
  · exact no (by simp [frOk]; intros; omega)
  refine awp_upF [2, 4, 24, 25, 26, 27, 28, 29, 30, 31, 32, 33, 34, 35, 36, 37, 38, 39, 40, 41, 42, 43, 44, 45, 46, 47, 48, 49, 50] (by kernel_rfl) f.l.length (fun k e _ => e 24 = .int .i64 k ∧ ∀ j, j < k → ∀ x, f.l[j]? = some x → rdOk x = true) ?_ ?_
  · simp [go_sem]
  · rintro k fe ob c hk ⟨h24, hj⟩
    simp (maxSteps := 1000000) only [go_sem, Int.reduceEq, Int.reduceLT, Int.reduceLE, Int.reduceToNat, Nat.reduceLT, Nat.reduceEqDiff, Nat.reduceAdd, Nat.reduceLeDiff, Nat.reduceSub, Nat.reduceMul, ↓reduceIte, reduceCtorEq, w_app_nl] at h24
    simp (maxSteps := 1000000) only [go_sem, Int.reduceEq, Int.reduceLT, Int.reduceLE, Int.reduceToNat, Nat.reduceLT, Nat.reduceEqDiff, Nat.reduceAdd, Nat.reduceLeDiff, Nat.reduceSub, Nat.reduceMul, ↓reduceIte, reduceCtorEq, w_app_nl, h24, rds_length]
    refine cond_d (fun hlt => ?_) (fun hge => ?_)
    · have hkl : k < f.l.length := by omega
      have hk2 : f.l[k]? = some f.l[k] := List.getElem?_eq_getElem hkl
      have bad : rdOk f.l[k] = false → frOk f = false := fun h => by
        have : f.l.all rdOk = false := by rw [List.all_eq_false]; exact ⟨_, List.getElem_mem hkl, by simp [h]⟩
        simp [frOk, this]
      have nxt : rdOk f.l[k] = true → ∀ j, j < k + 1 → ∀ x, f.l[j]? = some x → rdOk x = true := fun h => lt_snoc hj hkl h
      generalize f.l[k] = x at *
      simp (maxSteps := 1000000) (disch := omega) only [go_sem, Int.reduceEq, Int.reduceLT, Int.reduceLE, Int.reduceToNat, Nat.reduceLT, Nat.reduceEqDiff, Nat.reduceAdd, Nat.reduceLeDiff, Nat.reduceSub, Nat.reduceMul, ↓reduceIte, reduceCtorEq, w_app_nl, wrap_id, h24, rds_length, rds_get, hk2, rdv]
      repeat (refine And.intro (by first | omega | (rw [mxL]; omega) | (simp [maxLen]; done) | (simp [maxLen]; omega)) ?_)
      refine call_pc (ok_ref28_in _ _ _) (by simp [go_sem]) ?_
      try simp (maxSteps := 1000000) only [go_sem, Int.reduceEq, Int.reduceLT, Int.reduceLE, Int.reduceToNat, Nat.reduceLT, Nat.reduceEqDiff, Nat.reduceAdd, Nat.reduceLeDiff, Nat.reduceSub, Nat.reduceMul, ↓reduceIte, reduceCtorEq, w_app_nl]
      refine gd_f rfl (fun g1 => ?_) (fun g1 => ?_) <;> simp (maxSteps := 1000000) only [go_sem, Int.reduceEq, Int.reduceLT, Int.reduceLE, Int.reduceToNat, Nat.reduceLT, Nat.reduceEqDiff, Nat.reduceAdd, Nat.reduceLeDiff, Nat.reduceSub, Nat.reduceMul, ↓reduceIte, reduceCtorEq, w_app_nl]
      · exact no (bad (by simp at g1; simp [rdOk, g1]))
      refine call_pc (ok_ref28_in _ _ _) (by simp [go_sem]) ?_
      try simp (maxSteps := 1000000) only [go_sem, Int.reduceEq, Int.reduceLT, Int.reduceLE, Int.reduceToNat, Nat.reduceLT, Nat.reduceEqDiff, Nat.reduceAdd, Nat.reduceLeDiff, Nat.reduceSub, Nat.reduceMul, ↓reduceIte, reduceCtorEq, w_app_nl]
      refine gd_f rfl (fun g2 => ?_) (fun g2 => ?_) <;> simp (maxSteps := 1000000) only [go_sem, Int.reduceEq, Int.reduceLT, Int.reduceLE, Int.reduceToNat, Nat.reduceLT, Nat.reduceEqDiff, Nat.reduceAdd, Nat.reduceLeDiff, Nat.reduceSub, Nat.reduceMul, ↓reduceIte, reduceCtorEq, w_app_nl]
      · exact no (bad (by simp at g2; simp [rdOk, g2]))
      refine call_pc (ok_ref28_in _ _ _) (by simp [go_sem]) ?_
      try simp (maxSteps := 1000000) only [go_sem, Int.reduceEq, Int.reduceLT, Int.reduceLE, Int.reduceToNat, Nat.reduceLT, Nat.reduceEqDiff, Nat.reduceAdd, Nat.reduceLeDiff, Nat.reduceSub, Nat.reduceMul, ↓reduceIte, reduceCtorEq, w_app_nl]
      refine gd_f rfl (fun g3 => ?_) (fun g3 => ?_) <;> simp (maxSteps := 1000000) only [go_sem, Int.reduceEq, Int.reduceLT, Int.reduceLE, Int.reduceToNat, Nat.reduceLT, Nat.reduceEqDiff, Nat.reduceAdd, Nat.reduceLeDiff, Nat.reduceSub, Nat.reduceMul, ↓reduceIte, reduceCtorEq, w_app_nl]
      · exact no (bad (by simp at g3; simp [rdOk, g3]))
      refine call_pc (ok_ref28_in _ _ _) (by simp [go_sem]) ?_
      try simp (maxSteps := 1000000) only [go_sem, Int.reduceEq, Int.reduceLT, Int.reduceLE, Int.reduceToNat, Nat.reduceLT, Nat.reduceEqDiff, Nat.reduceAdd, Nat.reduceLeDiff, Nat.reduceSub, Nat.reduceMul, ↓reduceIte, reduceCtorEq, w_app_nl]
      refine cond_split (fun g4 => ?_) (fun g4 => ?_) <;> simp (maxSteps := 1000000) (disch := omega) only [go_sem, Int.reduceEq, Int.reduceLT, Int.reduceLE, Int.reduceToNat, Nat.reduceLT, Nat.reduceEqDiff, Nat.reduceAdd, Nat.reduceLeDiff, Nat.reduceSub, Nat.reduceMul, ↓reduceIte, reduceCtorEq, w_app_nl, wrap_id, h24]
      · exact no (bad (by simp at g4; simp [rdOk, g4]))
      · simp at g1 g2 g3 g4
        exact up_next hkl ⟨(by first | ((try simp (maxSteps := 1000000) only [go_sem, Int.reduceEq, Int.reduceLT, Int.reduceLE, Int.reduceToNat, Nat.reduceLT, Nat.reduceEqDiff, Nat.reduceAdd, Nat.reduceLeDiff, Nat.reduceSub, Nat.reduceMul, ↓reduceIte, reduceCtorEq, w_app_nl]); done) | ((try simp (maxSteps := 1000000) only [go_sem, Int.reduceEq, Int.reduceLT, Int.reduceLE, Int.reduceToNat, Nat.reduceLT, Nat.reduceEqDiff, Nat.reduceAdd, Nat.reduceLeDiff, Nat.reduceSub, Nat.reduceMul, ↓reduceIte, reduceCtorEq, w_app_nl]); rfl) | ((try simp (maxSteps := 1000000) (disch := omega) only [go_sem, Int.reduceEq, Int.reduceLT, Int.reduceLE, Int.reduceToNat, Nat.reduceLT, Nat.reduceEqDiff, Nat.reduceAdd, Nat.reduceLeDiff, Nat.reduceSub, Nat.reduceMul, ↓reduceIte, reduceCtorEq, w_app_nl, wrap_id, w_ite_ne, w_ite_lt]); rfl) | (simp (maxSteps := 1000000) (disch := omega) only [go_sem, Int.reduceEq, Int.reduceLT, Int.reduceLE, Int.reduceToNat, Nat.reduceLT, Nat.reduceEqDiff, Nat.reduceAdd, Nat.reduceLeDiff, Nat.reduceSub, Nat.reduceMul, ↓reduceIte, reduceCtorEq, w_app_nl, wrap_id, w_ite_ne, w_ite_lt]; done)), nxt (by simp [rdOk, g1, g2, g3, g4])⟩
    · try simp (maxSteps := 1000000) only [go_sem, Int.reduceEq, Int.reduceLT, Int.reduceLE, Int.reduceToNat, Nat.reduceLT, Nat.reduceEqDiff, Nat.reduceAdd, Nat.reduceLeDiff, Nat.reduceSub, Nat.reduceMul, ↓reduceIte, reduceCtorEq, w_app_nl]
      refine Pub.of_eq ?_ rfl
      have : f.l.all rdOk = true := by
        rw [List.all_eq_true]; intro x hx
        obtain ⟨j, hj', rfl⟩ := List.getElem_of_mem hx
        exact hj j (by omega) _ (List.getElem?_eq_getElem hj')
      congr 1; simp [frOk, this, h1, h2]; omega
/-! strings as lists of numbers -/
def sb (s : ByteArray) : List Int := s.data.toList.map fun b => (b.toNat : Int)
theorem sb_length (s : ByteArray) : (sb s).length = s.size := by simp [sb]
theorem sb_bd (s : ByteArray) : ∀ x ∈ sb s, 0 ≤ x ∧ x ≤ 255 := by
  intro x hx
  obtain ⟨b, _, rfl⟩ := List.mem_map.1 hx
  have := b.toNat_lt
  omega
theorem sb_getD_bd (s : ByteArray) (i : Nat) : 0 ≤ (sb s).getD i 0 ∧ (sb s).getD i 0 ≤ 255 := by
  rw [List.getD_eq_getElem?_getD]
  by_cases h : i < (sb s).length
  · rw [List.getElem?_eq_getElem h]; exact sb_bd s _ (List.getElem_mem h)
  · rw [List.getElem?_eq_none (by omega)]; simp
theorem sidx_eq (s : ByteArray) (a : Int) (h0 : 0 ≤ a) (h1 : a < s.size) : (if 0 ≤ a then (s[a.toNat]?).map fun b => AV.int .u8 b.toNat else none) = some (.int .u8 ((sb s).getD a.toNat 0)) := by
  rw [if_pos h0]
  have h : a.toNat < s.size := by omega
  rw [getElem?_pos s a.toNat h]
  simp only [Option.map_some, Option.some.injEq, AV.int.injEq, true_and]
  rw [List.getD_eq_getElem?_getD, List.getElem?_eq_getElem (by rw [sb_length]; exact h)]
  simp [sb]
  rfl
theorem sidxN (s : ByteArray) (k : Nat) (h1 : k < s.size) : (if 0 ≤ (k : Int) then Option.map (fun b => AV.int .u8 ↑b.toNat) s[k]? else none) = some (.int .u8 ((sb s).getD k 0)) := by
  have := sidx_eq s k (by omega) (by omega)
  simpa using this
theorem bit_shl8 (x : Int) (h0 : 0 ≤ x) (h1 : x ≤ 1125899906842624) : bitD .shl .i64 x .u64 8 = some (.int .i64 (x * 256)) := by
  simp only [bitD, IntKind.bits]
  rw [if_pos (by omega)]
  have : (2 : Int) ^ min (8 : Int).toNat 64 = 256 := by decide
  rw [this, wrap_id (by omega) (by omega)]
theorem bit_shr8 (x : Int) : bitD .shr .i64 x .u64 8 = some (.int .i64 (x / 256)) := by
  simp only [bitD, IntKind.bits]
  rw [if_pos (by omega)]
  have : (2 : Int) ^ min (8 : Int).toNat 64 = 256 := by decide
  rw [this, Int.fdiv_eq_ediv_of_nonneg _ (by omega)]
theorem bit_or8 (x b : Int) (h0 : 0 ≤ x) (h1 : x ≤ 1125899906842624) (h2 : 0 ≤ b) (h3 : b ≤ 255) : bitD .or .i64 (x * 256) .i64 b = some (.int .i64 (x * 256 + b)) := by
  show some (AV.int .i64 (IntKind.i64.wrap ((BitVec.ofInt 64 (x * 256) ||| BitVec.ofInt 64 b : BitVec 64).toNat))) = _
  have e1 : (BitVec.ofInt 64 (x * 256)).toNat = 2 ^ 8 * x.toNat := by rw [BitVec.toNat_ofInt]; omega
  have e2 : (BitVec.ofInt 64 b).toNat = b.toNat := by rw [BitVec.toNat_ofInt]; omega
  rw [BitVec.toNat_or, e1, e2, ← Nat.two_pow_add_eq_or_of_lt (by omega : b.toNat < 2 ^ 8)]
  rw [wrap_id (by omega) (by omega)]
  congr 2
  omega
theorem wrap_u8 (n : Int) : IntKind.u8.wrap n = n % 256 := by simp [IntKind.wrap, IntKind.bits, IntKind.signed]
def sumGo : List Int → Int → Int → Int × Int
  | [], a, b => (a, b)
  | x :: r, a, b => sumGo r ((a + x) % 65521) ((b + (a + x) % 65521) % 65521)
def sumS (s : ByteArray) : Int := 65536 * (sumGo (sb s) 1 0).2 + (sumGo (sb s) 1 0).1
theorem drop_getD (l : List Int) (k : Nat) (h : k < l.length) : l.drop k = l.getD k 0 :: l.drop (k + 1) := by
  rw [List.drop_eq_getElem_cons h, List.getD_eq_getElem?_getD, List.getElem?_eq_getElem h]; rfl
theorem ok_telemetry_Sum (s : ByteArray) (hs : s.size ≤ 9223372036854775807) : PC prog n_telemetry_Sum [.str s] (.int .i64 (sumS s)) := by
  refine PC_of_body b_telemetry_Sum (by simp) ?_
  simp only [c_telemetry_Sum, go_sem, Int.reduceEq, Int.reduceLT, Int.reduceLE, Int.reduceToNat, Nat.reduceLT, Nat.reduceEqDiff, Nat.reduceAdd, Nat.reduceLeDiff, Nat.reduceSub, Nat.reduceMul, ↓reduceIte, reduceCtorEq, w_app_nl]
  refine awp_upF [3, 4, 5, 8, 9, 10, 11, 12, 13, 14, 15, 16, 17, 18, 19, 20, 21, 22] (by kernel_rfl) s.size (fun k e _ => ∃ a b, e 8 = .int .i64 k ∧ e 3 = .int .i64 a ∧ e 4 = .int .i64 b ∧ 0 ≤ a ∧ a < 65521 ∧ 0 ≤ b ∧ b < 65521 ∧ sumGo (sb s) 1 0 = sumGo ((sb s).drop k) a b) ?_ ?_
  · exact ⟨1, 0, (by first | ((try simp (maxSteps := 1000000) only [go_sem, Int.reduceEq, Int.reduceLT, Int.reduceLE, Int.reduceToNat, Nat.reduceLT, Nat.reduceEqDiff, Nat.reduceAdd, Nat.reduceLeDiff, Nat.reduceSub, Nat.reduceMul, ↓reduceIte, reduceCtorEq, w_app_nl]); done) | ((try simp (maxSteps := 1000000) only [go_sem, Int.reduceEq, Int.reduceLT, Int.reduceLE, Int.reduceToNat, Nat.reduceLT, Nat.reduceEqDiff, Nat.reduceAdd, Nat.reduceLeDiff, Nat.reduceSub, Nat.reduceMul, ↓reduceIte, reduceCtorEq, w_app_nl]); rfl) | ((try simp (maxSteps := 1000000) (disch := omega) only [go_sem, Int.reduceEq, Int.reduceLT, Int.reduceLE, Int.reduceToNat, Nat.reduceLT, Nat.reduceEqDiff, Nat.reduceAdd, Nat.reduceLeDiff, Nat.reduceSub, Nat.reduceMul, ↓reduceIte, reduceCtorEq, w_app_nl, wrap_id, w_ite_ne, w_ite_lt]); rfl) | (simp (maxSteps := 1000000) (disch := omega) only [go_sem, Int.reduceEq, Int.reduceLT, Int.reduceLE, Int.reduceToNat, Nat.reduceLT, Nat.reduceEqDiff, Nat.reduceAdd, Nat.reduceLeDiff, Nat.reduceSub, Nat.reduceMul, ↓reduceIte, reduceCtorEq, w_app_nl, wrap_id, w_ite_ne, w_ite_lt]; done)), (by first | ((try simp (maxSteps := 1000000) only [go_sem, Int.reduceEq, Int.reduceLT, Int.reduceLE, Int.reduceToNat, Nat.reduceLT, Nat.reduceEqDiff, Nat.reduceAdd, Nat.reduceLeDiff, Nat.reduceSub, Nat.reduceMul, ↓reduceIte, reduceCtorEq, w_app_nl]); done) | ((try simp (maxSteps := 1000000) only [go_sem, Int.reduceEq, Int.reduceLT, Int.reduceLE, Int.reduceToNat, Nat.reduceLT, Nat.reduceEqDiff, Nat.reduceAdd, Nat.reduceLeDiff, Nat.reduceSub, Nat.reduceMul, ↓reduceIte, reduceCtorEq, w_app_nl]); rfl) | ((try simp (maxSteps := 1000000) (disch := omega) only [go_sem, Int.reduceEq, Int.reduceLT, Int.reduceLE, Int.reduceToNat, Nat.reduceLT, Nat.reduceEqDiff, Nat.reduceAdd, Nat.reduceLeDiff, Nat.reduceSub, Nat.reduceMul, ↓reduceIte, reduceCtorEq, w_app_nl, wrap_id, w_ite_ne, w_ite_lt]); rfl) | (simp (maxSteps := 1000000) (disch := omega) only [go_sem, Int.reduceEq, Int.reduceLT, Int.reduceLE, Int.reduceToNat, Nat.reduceLT, Nat.reduceEqDiff, Nat.reduceAdd, Nat.reduceLeDiff, Nat.reduceSub, Nat.reduceMul, ↓reduceIte, reduceCtorEq, w_app_nl, wrap_id, w_ite_ne, w_ite_lt]; done)), (by first | ((try simp (maxSteps := 1000000) only [go_sem, Int.reduceEq, Int.reduceLT, Int.reduceLE, Int.reduceToNat, Nat.reduceLT, Nat.reduceEqDiff, Nat.reduceAdd, Nat.reduceLeDiff, Nat.reduceSub, Nat.reduceMul, ↓reduceIte, reduceCtorEq, w_app_nl]); done) | ((try simp (maxSteps := 1000000) only [go_sem, Int.reduceEq, Int.reduceLT, Int.reduceLE, Int.reduceToNat, Nat.reduceLT, Nat.reduceEqDiff, Nat.reduceAdd, Nat.reduceLeDiff, Nat.reduceSub, Nat.reduceMul, ↓reduceIte, reduceCtorEq, w_app_nl]); rfl) | ((try simp (maxSteps := 1000000) (disch := omega) only [go_sem, Int.reduceEq, Int.reduceLT, Int.reduceLE, Int.reduceToNat, Nat.reduceLT, Nat.reduceEqDiff, Nat.reduceAdd, Nat.reduceLeDiff, Nat.reduceSub, Nat.reduceMul, ↓reduceIte, reduceCtorEq, w_app_nl, wrap_id, w_ite_ne, w_ite_lt]); rfl) | (simp (maxSteps := 1000000) (disch := omega) only [go_sem, Int.reduceEq, Int.reduceLT, Int.reduceLE, Int.reduceToNat, Nat.reduceLT, Nat.reduceEqDiff, Nat.reduceAdd, Nat.reduceLeDiff, Nat.reduceSub, Nat.reduceMul, ↓reduceIte, reduceCtorEq, w_app_nl, wrap_id, w_ite_ne, w_ite_lt]; done)), by omega, by omega, by omega, by omega, by simp⟩
  · rintro k fe ob c hk ⟨a, b, h8, h3, h4, a0, a1, b0, b1, hgo⟩
    simp (maxSteps := 1000000) only [go_sem, Int.reduceEq, Int.reduceLT, Int.reduceLE, Int.reduceToNat, Nat.reduceLT, Nat.reduceEqDiff, Nat.reduceAdd, Nat.reduceLeDiff, Nat.reduceSub, Nat.reduceMul, ↓reduceIte, reduceCtorEq, w_app_nl] at h8 h3 h4
    simp (maxSteps := 1000000) only [go_sem, Int.reduceEq, Int.reduceLT, Int.reduceLE, Int.reduceToNat, Nat.reduceLT, Nat.reduceEqDiff, Nat.reduceAdd, Nat.reduceLeDiff, Nat.reduceSub, Nat.reduceMul, ↓reduceIte, reduceCtorEq, w_app_nl, h8]
    refine cond_d (fun hlt => ?_) (fun hge => ?_)
    · have hks : k < s.size := by omega
      rw [drop_getD _ _ (by rw [sb_length]; exact hks), sumGo] at hgo
      have hx := sb_getD_bd s k
      simp (maxSteps := 1000000) (disch := omega) only [go_sem, Int.reduceEq, Int.reduceLT, Int.reduceLE, Int.reduceToNat, Nat.reduceLT, Nat.reduceEqDiff, Nat.reduceAdd, Nat.reduceLeDiff, Nat.reduceSub, Nat.reduceMul, ↓reduceIte, reduceCtorEq, w_app_nl, wrap_id, h8, h3, h4, sidx_eq]
      refine ⟨_, sidxN s k hks, ?_⟩
      generalize (sb s).getD k 0 = x at *
      simp (maxSteps := 1000000) (disch := omega) only [go_sem, Int.reduceEq, Int.reduceLT, Int.reduceLE, Int.reduceToNat, Nat.reduceLT, Nat.reduceEqDiff, Nat.reduceAdd, Nat.reduceLeDiff, Nat.reduceSub, Nat.reduceMul, ↓reduceIte, reduceCtorEq, w_app_nl, wrap_id, h8, h3, h4]
      repeat (refine And.intro (by first | omega | (rw [mxL]; omega) | (simp [maxLen]; done) | (simp [maxLen]; omega)) ?_)
      rw [Int.tmod_eq_emod_of_nonneg (by omega : 0 ≤ a + x)]
      generalize hp : (a + x) % 65521 = p at *
      have hp0 : 0 ≤ p := by omega
      simp (maxSteps := 1000000) (disch := omega) only [go_sem, Int.reduceEq, Int.reduceLT, Int.reduceLE, Int.reduceToNat, Nat.reduceLT, Nat.reduceEqDiff, Nat.reduceAdd, Nat.reduceLeDiff, Nat.reduceSub, Nat.reduceMul, ↓reduceIte, reduceCtorEq, w_app_nl, wrap_id, h8, h3, h4]
      repeat (refine And.intro (by first | omega | (rw [mxL]; omega) | (simp [maxLen]; done) | (simp [maxLen]; omega)) ?_)
      rw [Int.tmod_eq_emod_of_nonneg (by omega : 0 ≤ b + p)]
      try simp (maxSteps := 1000000) (disch := omega) only [go_sem, Int.reduceEq, Int.reduceLT, Int.reduceLE, Int.reduceToNat, Nat.reduceLT, Nat.reduceEqDiff, Nat.reduceAdd, Nat.reduceLeDiff, Nat.reduceSub, Nat.reduceMul, ↓reduceIte, reduceCtorEq, w_app_nl, wrap_id, h8]
      refine up_next hks ⟨p, (b + p) % 65521, (by first | ((try simp (maxSteps := 1000000) only [go_sem, Int.reduceEq, Int.reduceLT, Int.reduceLE, Int.reduceToNat, Nat.reduceLT, Nat.reduceEqDiff, Nat.reduceAdd, Nat.reduceLeDiff, Nat.reduceSub, Nat.reduceMul, ↓reduceIte, reduceCtorEq, w_app_nl]); done) | ((try simp (maxSteps := 1000000) only [go_sem, Int.reduceEq, Int.reduceLT, Int.reduceLE, Int.reduceToNat, Nat.reduceLT, Nat.reduceEqDiff, Nat.reduceAdd, Nat.reduceLeDiff, Nat.reduceSub, Nat.reduceMul, ↓reduceIte, reduceCtorEq, w_app_nl]); rfl) | ((try simp (maxSteps := 1000000) (disch := omega) only [go_sem, Int.reduceEq, Int.reduceLT, Int.reduceLE, Int.reduceToNat, Nat.reduceLT, Nat.reduceEqDiff, Nat.reduceAdd, Nat.reduceLeDiff, Nat.reduceSub, Nat.reduceMul, ↓reduceIte, reduceCtorEq, w_app_nl, wrap_id, w_ite_ne, w_ite_lt]); rfl) | (simp (maxSteps := 1000000) (disch := omega) only [go_sem, Int.reduceEq, Int.reduceLT, Int.reduceLE, Int.reduceToNat, Nat.reduceLT, Nat.reduceEqDiff, Nat.reduceAdd, Nat.reduceLeDiff, Nat.reduceSub, Nat.reduceMul, ↓reduceIte, reduceCtorEq, w_app_nl, wrap_id, w_ite_ne, w_ite_lt]; done)), (by first | ((try simp (maxSteps := 1000000) only [go_sem, Int.reduceEq, Int.reduceLT, Int.reduceLE, Int.reduceToNat, Nat.reduceLT, Nat.reduceEqDiff, Nat.reduceAdd, Nat.reduceLeDiff, Nat.reduceSub, Nat.reduceMul, ↓reduceIte, reduceCtorEq, w_app_nl]); done) | ((try simp (maxSteps := 1000000) only [go_sem, Int.reduceEq, Int.reduceLT, Int.reduceLE, Int.reduceToNat, Nat.reduceLT, Nat.reduceEqDiff, Nat.reduceAdd, Nat.reduceLeDiff, Nat.reduceSub, Nat.reduceMul, ↓reduceIte, reduceCtorEq, w_app_nl]); rfl) | ((try simp (maxSteps := 1000000) (disch := omega) only [go_sem, Int.reduceEq, Int.reduceLT, Int.reduceLE, Int.reduceToNat, Nat.reduceLT, Nat.reduceEqDiff, Nat.reduceAdd, Nat.reduceLeDiff, Nat.reduceSub, Nat.reduceMul, ↓reduceIte, reduceCtorEq, w_app_nl, wrap_id, w_ite_ne, w_ite_lt]); rfl) | (simp (maxSteps := 1000000) (disch := omega) only [go_sem, Int.reduceEq, Int.reduceLT, Int.reduceLE, Int.reduceToNat, Nat.reduceLT, Nat.reduceEqDiff, Nat.reduceAdd, Nat.reduceLeDiff, Nat.reduceSub, Nat.reduceMul, ↓reduceIte, reduceCtorEq, w_app_nl, wrap_id, w_ite_ne, w_ite_lt]; done)), (by first | ((try simp (maxSteps := 1000000) only [go_sem, Int.reduceEq, Int.reduceLT, Int.reduceLE, Int.reduceToNat, Nat.reduceLT, Nat.reduceEqDiff, Nat.reduceAdd, Nat.reduceLeDiff, Nat.reduceSub, Nat.reduceMul, ↓reduceIte, reduceCtorEq, w_app_nl]); done) | ((try simp (maxSteps := 1000000) only [go_sem, Int.reduceEq, Int.reduceLT, Int.reduceLE, Int.reduceToNat, Nat.reduceLT, Nat.reduceEqDiff, Nat.reduceAdd, Nat.reduceLeDiff, Nat.reduceSub, Nat.reduceMul, ↓reduceIte, reduceCtorEq, w_app_nl]); rfl) | ((try simp (maxSteps := 1000000) (disch := omega) only [go_sem, Int.reduceEq, Int.reduceLT, Int.reduceLE, Int.reduceToNat, Nat.reduceLT, Nat.reduceEqDiff, Nat.reduceAdd, Nat.reduceLeDiff, Nat.reduceSub, Nat.reduceMul, ↓reduceIte, reduceCtorEq, w_app_nl, wrap_id, w_ite_ne, w_ite_lt]); rfl) | (simp (maxSteps := 1000000) (disch := omega) only [go_sem, Int.reduceEq, Int.reduceLT, Int.reduceLE, Int.reduceToNat, Nat.reduceLT, Nat.reduceEqDiff, Nat.reduceAdd, Nat.reduceLeDiff, Nat.reduceSub, Nat.reduceMul, ↓reduceIte, reduceCtorEq, w_app_nl, wrap_id, w_ite_ne, w_ite_lt]; done)), by omega, by omega, by omega, by omega, hgo⟩
    · rw [List.drop_of_length_le (by rw [sb_length]; omega), sumGo] at hgo
      simp (maxSteps := 1000000) (disch := omega) only [go_sem, Int.reduceEq, Int.reduceLT, Int.reduceLE, Int.reduceToNat, Nat.reduceLT, Nat.reduceEqDiff, Nat.reduceAdd, Nat.reduceLeDiff, Nat.reduceSub, Nat.reduceMul, ↓reduceIte, reduceCtorEq, w_app_nl, wrap_id, h3, h4]
      exact Pub.of_eq (by rw [sumS, hgo]) rfl
theorem ok_ref28_Sum (s : ByteArray) (hs : s.size ≤ 9223372036854775807) : PC prog n_ref28_Sum [.str s] (.int .i64 (sumS s)) := by
  refine PC_of_body b_ref28_Sum (by simp) ?_
  simp only [c_ref28_Sum, go_sem, Int.reduceEq, Int.reduceLT, Int.reduceLE, Int.reduceToNat, Nat.reduceLT, Nat.reduceEqDiff, Nat.reduceAdd, Nat.reduceLeDiff, Nat.reduceSub, Nat.reduceMul, ↓reduceIte, reduceCtorEq, w_app_nl]
  refine awp_upF [3, 4, 5, 6, 7, 8, 9, 10, 11, 12, 13, 14, 15, 16, 17, 18, 19, 20, 21, 22] (by kernel_rfl) s.size (fun k e _ => ∃ a b, e 5 = .int .i64 k ∧ e 3 = .int .i64 a ∧ e 4 = .int .i64 b ∧ 0 ≤ a ∧ a < 65521 ∧ 0 ≤ b ∧ b < 65521 ∧ sumGo (sb s) 1 0 = sumGo ((sb s).drop k) a b) ?_ ?_
  · exact ⟨1, 0, (by first | ((try simp (maxSteps := 1000000) only [go_sem, Int.reduceEq, Int.reduceLT, Int.reduceLE, Int.reduceToNat, Nat.reduceLT, Nat.reduceEqDiff, Nat.reduceAdd, Nat.reduceLeDiff, Nat.reduceSub, Nat.reduceMul, ↓reduceIte, reduceCtorEq, w_app_nl]); done) | ((try simp (maxSteps := 1000000) only [go_sem, Int.reduceEq, Int.reduceLT, Int.reduceLE, Int.reduceToNat, Nat.reduceLT, Nat.reduceEqDiff, Nat.reduceAdd, Nat.reduceLeDiff, Nat.reduceSub, Nat.reduceMul, ↓reduceIte, reduceCtorEq, w_app_nl]); rfl) | ((try simp (maxSteps := 1000000) (disch := omega) only [go_sem, Int.reduceEq, Int.reduceLT, Int.reduceLE, Int.reduceToNat, Nat.reduceLT, Nat.reduceEqDiff, Nat.reduceAdd, Nat.reduceLeDiff, Nat.reduceSub, Nat.reduceMul, ↓reduceIte, reduceCtorEq, w_app_nl, wrap_id, w_ite_ne, w_ite_lt]); rfl) | (simp (maxSteps := 1000000) (disch := omega) only [go_sem, Int.reduceEq, Int.reduceLT, Int.reduceLE, Int.reduceToNat, Nat.reduceLT, Nat.reduceEqDiff, Nat.reduceAdd, Nat.reduceLeDiff, Nat.reduceSub, Nat.reduceMul, ↓reduceIte, reduceCtorEq, w_app_nl, wrap_id, w_ite_ne, w_ite_lt]; done)), (by first | ((try simp (maxSteps := 1000000) only [go_sem, Int.reduceEq, Int.reduceLT, Int.reduceLE, Int.reduceToNat, Nat.reduceLT, Nat.reduceEqDiff, Nat.reduceAdd, Nat.reduceLeDiff, Nat.reduceSub, Nat.reduceMul, ↓reduceIte, reduceCtorEq, w_app_nl]); done) | ((try simp (maxSteps := 1000000) only [go_sem, Int.reduceEq, Int.reduceLT, Int.reduceLE, Int.reduceToNat, Nat.reduceLT, Nat.reduceEqDiff, Nat.reduceAdd, Nat.reduceLeDiff, Nat.reduceSub, Nat.reduceMul, ↓reduceIte, reduceCtorEq, w_app_nl]); rfl) | ((try simp (maxSteps := 1000000) (disch := omega) only [go_sem, Int.reduceEq, Int.reduceLT, Int.reduceLE, Int.reduceToNat, Nat.reduceLT, Nat.reduceEqDiff, Nat.reduceAdd, Nat.reduceLeDiff, Nat.reduceSub, Nat.reduceMul, ↓reduceIte, reduceCtorEq, w_app_nl, wrap_id, w_ite_ne, w_ite_lt]); rfl) | (simp (maxSteps := 1000000) (disch := omega) only [go_sem, Int.reduceEq, Int.reduceLT, Int.reduceLE, Int.reduceToNat, Nat.reduceLT, Nat.reduceEqDiff, Nat.reduceAdd, Nat.reduceLeDiff, Nat.reduceSub, Nat.reduceMul, ↓reduceIte, reduceCtorEq, w_app_nl, wrap_id, w_ite_ne, w_ite_lt]; done)), (by first | ((try simp (maxSteps := 1000000) only [go_sem, Int.reduceEq, Int.reduceLT, Int.reduceLE, Int.reduceToNat, Nat.reduceLT, Nat.reduceEqDiff, Nat.reduceAdd, Nat.reduceLeDiff, Nat.reduceSub, Nat.reduceMul, ↓reduceIte, reduceCtorEq, w_app_nl]); done) | ((try simp (maxSteps := 1000000) only [go_sem, Int.reduceEq, Int.reduceLT, Int.reduceLE, Int.reduceToNat, Nat.reduceLT, Nat.reduceEqDiff, Nat.reduceAdd, Nat.reduceLeDiff, Nat.reduceSub, Nat.reduceMul, ↓reduceIte, reduceCtorEq, w_app_nl]); rfl) | ((try simp (maxSteps := 1000000) (disch := omega) only [go_sem, Int.reduceEq, Int.reduceLT, Int.reduceLE, Int.reduceToNat, Nat.reduceLT, Nat.reduceEqDiff, Nat.reduceAdd, Nat.reduceLeDiff, Nat.reduceSub, Nat.reduceMul, ↓reduceIte, reduceCtorEq, w_app_nl, wrap_id, w_ite_ne, w_ite_lt]); rfl) | (simp (maxSteps := 1000000) (disch := omega) only [go_sem, Int.reduceEq, Int.reduceLT, Int.reduceLE, Int.reduceToNat, Nat.reduceLT, Nat.reduceEqDiff, Nat.reduceAdd, Nat.reduceLeDiff, Nat.reduceSub, Nat.reduceMul, ↓reduceIte, reduceCtorEq, w_app_nl, wrap_id, w_ite_ne, w_ite_lt]; done)), by omega, by omega, by omega, by omega, by simp⟩
  · rintro k fe ob c hk ⟨a, b, h5, h3, h4, a0, a1, b0, b1, hgo⟩
    simp (maxSteps := 1000000) only [go_sem, Int.reduceEq, Int.reduceLT, Int.reduceLE, Int.reduceToNat, Nat.reduceLT, Nat.reduceEqDiff, Nat.reduceAdd, Nat.reduceLeDiff, Nat.reduceSub, Nat.reduceMul, ↓reduceIte, reduceCtorEq, w_app_nl] at h5 h3 h4
    simp (maxSteps := 1000000) only [go_sem, Int.reduceEq, Int.reduceLT, Int.reduceLE, Int.reduceToNat, Nat.reduceLT, Nat.reduceEqDiff, Nat.reduceAdd, Nat.reduceLeDiff, Nat.reduceSub, Nat.reduceMul, ↓reduceIte, reduceCtorEq, w_app_nl, h5]
    refine cond_d (fun hlt => ?_) (fun hge => ?_)
    · have hks : k < s.size := by omega
      rw [drop_getD _ _ (by rw [sb_length]; exact hks), sumGo] at hgo
      have hx := sb_getD_bd s k
      simp (maxSteps := 1000000) (disch := omega) only [go_sem, Int.reduceEq, Int.reduceLT, Int.reduceLE, Int.reduceToNat, Nat.reduceLT, Nat.reduceEqDiff, Nat.reduceAdd, Nat.reduceLeDiff, Nat.reduceSub, Nat.reduceMul, ↓reduceIte, reduceCtorEq, w_app_nl, wrap_id, h5, h3, h4]
      refine ⟨_, sidxN s k hks, ?_⟩
      generalize (sb s).getD k 0 = x at *
      simp (maxSteps := 1000000) (disch := omega) only [go_sem, Int.reduceEq, Int.reduceLT, Int.reduceLE, Int.reduceToNat, Nat.reduceLT, Nat.reduceEqDiff, Nat.reduceAdd, Nat.reduceLeDiff, Nat.reduceSub, Nat.reduceMul, ↓reduceIte, reduceCtorEq, w_app_nl, wrap_id, h5, h3, h4]
      repeat (refine And.intro (by first | omega | (rw [mxL]; omega) | (simp [maxLen]; done) | (simp [maxLen]; omega)) ?_)
      rw [Int.tmod_eq_emod_of_nonneg (by omega : 0 ≤ a + x)]
      generalize hp : (a + x) % 65521 = p at *
      have hp0 : 0 ≤ p := by omega
      simp (maxSteps := 1000000) (disch := omega) only [go_sem, Int.reduceEq, Int.reduceLT, Int.reduceLE, Int.reduceToNat, Nat.reduceLT, Nat.reduceEqDiff, Nat.reduceAdd, Nat.reduceLeDiff, Nat.reduceSub, Nat.reduceMul, ↓reduceIte, reduceCtorEq, w_app_nl, wrap_id, h5, h3, h4]
      repeat (refine And.intro (by first | omega | (rw [mxL]; omega) | (simp [maxLen]; done) | (simp [maxLen]; omega)) ?_)
      rw [Int.tmod_eq_emod_of_nonneg (by omega : 0 ≤ b + p)]
      try simp (maxSteps := 1000000) (disch := omega) only [go_sem, Int.reduceEq, Int.reduceLT, Int.reduceLE, Int.reduceToNat, Nat.reduceLT, Nat.reduceEqDiff, Nat.reduceAdd, Nat.reduceLeDiff, Nat.reduceSub, Nat.reduceMul, ↓reduceIte, reduceCtorEq, w_app_nl, wrap_id, h5]
      refine up_next hks ⟨p, (b + p) % 65521, (by first | ((try simp (maxSteps := 1000000) only [go_sem, Int.reduceEq, Int.reduceLT, Int.reduceLE, Int.reduceToNat, Nat.reduceLT, Nat.reduceEqDiff, Nat.reduceAdd, Nat.reduceLeDiff, Nat.reduceSub, Nat.reduceMul, ↓reduceIte, reduceCtorEq, w_app_nl]); done) | ((try simp (maxSteps := 1000000) only [go_sem, Int.reduceEq, Int.reduceLT, Int.reduceLE, Int.reduceToNat, Nat.reduceLT, Nat.reduceEqDiff, Nat.reduceAdd, Nat.reduceLeDiff, Nat.reduceSub, Nat.reduceMul, ↓reduceIte, reduceCtorEq, w_app_nl]); rfl) | ((try simp (maxSteps := 1000000) (disch := omega) only [go_sem, Int.reduceEq, Int.reduceLT, Int.reduceLE, Int.reduceToNat, Nat.reduceLT, Nat.reduceEqDiff, Nat.reduceAdd, Nat.reduceLeDiff, Nat.reduceSub, Nat.reduceMul, ↓reduceIte, reduceCtorEq, w_app_nl, wrap_id, w_ite_ne, w_ite_lt]); rfl) | (simp (maxSteps := 1000000) (disch := omega) only [go_sem, Int.reduceEq, Int.reduceLT, Int.reduceLE, Int.reduceToNat, Nat.reduceLT, Nat.reduceEqDiff, Nat.reduceAdd, Nat.reduceLeDiff, Nat.reduceSub, Nat.reduceMul, ↓reduceIte, reduceCtorEq, w_app_nl, wrap_id, w_ite_ne, w_ite_lt]; done)), (by first | ((try simp (maxSteps := 1000000) only [go_sem, Int.reduceEq, Int.reduceLT, Int.reduceLE, Int.reduceToNat, Nat.reduceLT, Nat.reduceEqDiff, Nat.reduceAdd, Nat.reduceLeDiff, Nat.reduceSub, Nat.reduceMul, ↓reduceIte, reduceCtorEq, w_app_nl]); done) | ((try simp (maxSteps := 1000000) only [go_sem, Int.reduceEq, Int.reduceLT, Int.reduceLE, Int.reduceToNat, Nat.reduceLT, Nat.reduceEqDiff, Nat.reduceAdd, Nat.reduceLeDiff, Nat.reduceSub, Nat.reduceMul, ↓reduceIte, reduceCtorEq, w_app_nl]); rfl) | ((try simp (maxSteps := 1000000) (disch := omega) only [go_sem, Int.reduceEq, Int.reduceLT, Int.reduceLE, Int.reduceToNat, Nat.reduceLT, Nat.reduceEqDiff, Nat.reduceAdd, Nat.reduceLeDiff, Nat.reduceSub, Nat.reduceMul, ↓reduceIte, reduceCtorEq, w_app_nl, wrap_id, w_ite_ne, w_ite_lt]); rfl) | (simp (maxSteps := 1000000) (disch := omega) only [go_sem, Int.reduceEq, Int.reduceLT, Int.reduceLE, Int.reduceToNat, Nat.reduceLT, Nat.reduceEqDiff, Nat.reduceAdd, Nat.reduceLeDiff, Nat.reduceSub, Nat.reduceMul, ↓reduceIte, reduceCtorEq, w_app_nl, wrap_id, w_ite_ne, w_ite_lt]; done)), (by first | ((try simp (maxSteps := 1000000) only [go_sem, Int.reduceEq, Int.reduceLT, Int.reduceLE, Int.reduceToNat, Nat.reduceLT, Nat.reduceEqDiff, Nat.reduceAdd, Nat.reduceLeDiff, Nat.reduceSub, Nat.reduceMul, ↓reduceIte, reduceCtorEq, w_app_nl]); done) | ((try simp (maxSteps := 1000000) only [go_sem, Int.reduceEq, Int.reduceLT, Int.reduceLE, Int.reduceToNat, Nat.reduceLT, Nat.reduceEqDiff, Nat.reduceAdd, Nat.reduceLeDiff, Nat.reduceSub, Nat.reduceMul, ↓reduceIte, reduceCtorEq, w_app_nl]); rfl) | ((try simp (maxSteps := 1000000) (disch := omega) only [go_sem, Int.reduceEq, Int.reduceLT, Int.reduceLE, Int.reduceToNat, Nat.reduceLT, Nat.reduceEqDiff, Nat.reduceAdd, Nat.reduceLeDiff, Nat.reduceSub, Nat.reduceMul, ↓reduceIte, reduceCtorEq, w_app_nl, wrap_id, w_ite_ne, w_ite_lt]); rfl) | (simp (maxSteps := 1000000) (disch := omega) only [go_sem, Int.reduceEq, Int.reduceLT, Int.reduceLE, Int.reduceToNat, Nat.reduceLT, Nat.reduceEqDiff, Nat.reduceAdd, Nat.reduceLeDiff, Nat.reduceSub, Nat.reduceMul, ↓reduceIte, reduceCtorEq, w_app_nl, wrap_id, w_ite_ne, w_ite_lt]; done)), by omega, by omega, by omega, by omega, hgo⟩
    · rw [List.drop_of_length_le (by rw [sb_length]; omega), sumGo] at hgo
      simp (maxSteps := 1000000) (disch := omega) only [go_sem, Int.reduceEq, Int.reduceLT, Int.reduceLE, Int.reduceToNat, Nat.reduceLT, Nat.reduceEqDiff, Nat.reduceAdd, Nat.reduceLeDiff, Nat.reduceSub, Nat.reduceMul, ↓reduceIte, reduceCtorEq, w_app_nl, wrap_id, h3, h4]
      exact Pub.of_eq (by rw [sumS, hgo]) rfl
/-- the number whose bytes these are, the least one first -/
def getL : List Int → Int
  | [] => 0
  | x :: r => x + 256 * getL r
theorem getL_bd : ∀ (l : List Int), (∀ x ∈ l, 0 ≤ x ∧ x ≤ 255) → 0 ≤ getL l ∧ getL l < 256 ^ l.length
  | [], _ => by simp [getL]
  | x :: r, h => by
    have h1 := h x (by simp)
    obtain ⟨h2, h3⟩ := getL_bd r fun y hy => h y (by simp [hy])
    simp only [getL, List.length_cons, Int.pow_succ]
    omega
theorem pow256 (n : Nat) (h : n ≤ 4) : (256 : Int) ^ n ≤ 4294967296 := by
  have : n = 0 ∨ n = 1 ∨ n = 2 ∨ n = 3 ∨ n = 4 := by omega
  rcases this with rfl | rfl | rfl | rfl | rfl <;> decide
theorem ok_telemetry_value (s : ByteArray) (at' size : Nat) (hs : s.size ≤ 4611686018427387904) (h : at' + size ≤ s.size) (h5 : size ≤ 5) : PC prog n_telemetry_value [.str s, .int .i64 at', .int .i64 size] (.int .i64 (getL (((sb s).drop at').take size))) := by
  refine PC_of_body b_telemetry_value (by simp) ?_
  simp (disch := omega) only [c_telemetry_value, go_sem, Int.reduceEq, Int.reduceLT, Int.reduceLE, Int.reduceToNat, Nat.reduceLT, Nat.reduceEqDiff, Nat.reduceAdd, Nat.reduceLeDiff, Nat.reduceSub, Nat.reduceMul, ↓reduceIte, reduceCtorEq, w_app_nl, wrap_id]
  refine awp_upF [7, 8, 11, 12, 13, 14, 15, 16, 17, 18, 19, 20, 21, 22, 23] (by kernel_rfl) size (fun r e _ => e 8 = .int .i64 ((size : Int) - 1 - r) ∧ e 7 = .int .i64 (getL ((((sb s).drop at').take size).drop (size - r)))) ?_ ?_
  · refine ⟨by simp [go_sem], ?_⟩
    try simp (maxSteps := 1000000) only [go_sem, Int.reduceEq, Int.reduceLT, Int.reduceLE, Int.reduceToNat, Nat.reduceLT, Nat.reduceEqDiff, Nat.reduceAdd, Nat.reduceLeDiff, Nat.reduceSub, Nat.reduceMul, ↓reduceIte, reduceCtorEq, w_app_nl]
    rw [List.drop_of_length_le (by simp; omega)]; rfl
  · rintro r fe ob c hr ⟨h8, h7⟩
    simp (maxSteps := 1000000) only [go_sem, Int.reduceEq, Int.reduceLT, Int.reduceLE, Int.reduceToNat, Nat.reduceLT, Nat.reduceEqDiff, Nat.reduceAdd, Nat.reduceLeDiff, Nat.reduceSub, Nat.reduceMul, ↓reduceIte, reduceCtorEq, w_app_nl] at h8 h7
    simp (maxSteps := 1000000) only [go_sem, Int.reduceEq, Int.reduceLT, Int.reduceLE, Int.reduceToNat, Nat.reduceLT, Nat.reduceEqDiff, Nat.reduceAdd, Nat.reduceLeDiff, Nat.reduceSub, Nat.reduceMul, ↓reduceIte, reduceCtorEq, w_app_nl, h8]
    refine cond_d (fun hlt => ?_) (fun hge => ?_)
    · have hrs : r < size := by omega
      generalize hi : size - 1 - r = i at *
      have hi2 : size - r = i + 1 := by omega
      have hii : (size : Int) - 1 - r = (i : Int) := by omega
      have hnx : getL ((((sb s).drop at').take size).drop (size - (r + 1))) = (sb s).getD (at' + i) 0 + 256 * getL ((((sb s).drop at').take size).drop (i + 1)) := by
        rw [show size - (r + 1) = i by omega, drop_getD _ _ (by simp [sb_length]; omega), getL]
        congr 1
        rw [List.getD_eq_getElem?_getD, List.getD_eq_getElem?_getD, List.getElem?_take, if_pos (by omega), List.getElem?_drop]
      have hb := getL_bd ((((sb s).drop at').take size).drop (i + 1)) (fun x hx => sb_bd s x (List.mem_of_mem_drop (List.mem_of_mem_take (List.mem_of_mem_drop hx))))
      have hlen : ((((sb s).drop at').take size).drop (i + 1)).length ≤ 4 := by simp [sb_length]; omega
      have hb2 := pow256 _ hlen
      rw [hi2] at h7
      generalize getL ((((sb s).drop at').take size).drop (i + 1)) = y at *
      have hx := sb_getD_bd s (at' + i)
      simp only [hii] at h8 ⊢
      simp (maxSteps := 1000000) (disch := omega) only [go_sem, Int.reduceEq, Int.reduceLT, Int.reduceLE, Int.reduceToNat, Nat.reduceLT, Nat.reduceEqDiff, Nat.reduceAdd, Nat.reduceLeDiff, Nat.reduceSub, Nat.reduceMul, ↓reduceIte, reduceCtorEq, w_app_nl, wrap_id, h8, h7, bit_shl8, Option.some.injEq, exists_eq_left']
      have hsi := sidx_eq s ((at' : Int) + (i : Int)) (by omega) (by omega)
      rw [show ((at' : Int) + (i : Int)).toNat = at' + i by omega] at hsi
      simp only [show ((at' : Int) + (i : Int)).toNat = at' + i by omega]
      refine ⟨_, hsi, ?_⟩
      generalize (sb s).getD (at' + i) 0 = x at *
      simp (maxSteps := 1000000) (disch := omega) only [go_sem, Int.reduceEq, Int.reduceLT, Int.reduceLE, Int.reduceToNat, Nat.reduceLT, Nat.reduceEqDiff, Nat.reduceAdd, Nat.reduceLeDiff, Nat.reduceSub, Nat.reduceMul, ↓reduceIte, reduceCtorEq, w_app_nl, wrap_id, h8, h7, bit_or8, Option.some.injEq, exists_eq_left']
      repeat (refine And.intro (by first | omega | (rw [mxL]; omega) | (simp [maxLen]; done) | (simp [maxLen]; omega)) ?_)
      refine up_next hrs ⟨?_, ?_⟩
      · (try simp (maxSteps := 1000000) only [go_sem, Int.reduceEq, Int.reduceLT, Int.reduceLE, Int.reduceToNat, Nat.reduceLT, Nat.reduceEqDiff, Nat.reduceAdd, Nat.reduceLeDiff, Nat.reduceSub, Nat.reduceMul, ↓reduceIte, reduceCtorEq, w_app_nl]); congr 1; omega
      · simp (maxSteps := 1000000) only [go_sem, Int.reduceEq, Int.reduceLT, Int.reduceLE, Int.reduceToNat, Nat.reduceLT, Nat.reduceEqDiff, Nat.reduceAdd, Nat.reduceLeDiff, Nat.reduceSub, Nat.reduceMul, ↓reduceIte, reduceCtorEq, w_app_nl, hnx]
        congr 1; omega
    · simp (maxSteps := 1000000) only [go_sem, Int.reduceEq, Int.reduceLT, Int.reduceLE, Int.reduceToNat, Nat.reduceLT, Nat.reduceEqDiff, Nat.reduceAdd, Nat.reduceLeDiff, Nat.reduceSub, Nat.reduceMul, ↓reduceIte, reduceCtorEq, w_app_nl, h7]
      rw [show size - r = 0 by omega]
      exact Pub.of_eq rfl rfl
theorem ok_ref28_Get (s : ByteArray) (at' size : Nat) (hs : s.size ≤ 4611686018427387904) (h : at' + size ≤ s.size) (h5 : size ≤ 5) : PC prog n_ref28_Get [.str s, .int .i64 at', .int .i64 size] (.int .i64 (getL (((sb s).drop at').take size))) := by
  refine PC_of_body b_ref28_Get (by simp) ?_
  simp (disch := omega) only [c_ref28_Get, go_sem, Int.reduceEq, Int.reduceLT, Int.reduceLE, Int.reduceToNat, Nat.reduceLT, Nat.reduceEqDiff, Nat.reduceAdd, Nat.reduceLeDiff, Nat.reduceSub, Nat.reduceMul, ↓reduceIte, reduceCtorEq, w_app_nl, wrap_id]
  refine awp_upF [7, 8, 11, 12, 13, 14, 15, 16, 17, 18, 19, 20, 21, 22, 23] (by kernel_rfl) size (fun r e _ => e 8 = .int .i64 ((size : Int) - 1 - r) ∧ e 7 = .int .i64 (getL ((((sb s).drop at').take size).drop (size - r)))) ?_ ?_
  · refine ⟨by simp [go_sem], ?_⟩
    try simp (maxSteps := 1000000) only [go_sem, Int.reduceEq, Int.reduceLT, Int.reduceLE, Int.reduceToNat, Nat.reduceLT, Nat.reduceEqDiff, Nat.reduceAdd, Nat.reduceLeDiff, Nat.reduceSub, Nat.reduceMul, ↓reduceIte, reduceCtorEq, w_app_nl]
    rw [List.drop_of_length_le (by simp; omega)]; rfl
  · rintro r fe ob c hr ⟨h8, h7⟩
    simp (maxSteps := 1000000) only [go_sem, Int.reduceEq, Int.reduceLT, Int.reduceLE, Int.reduceToNat, Nat.reduceLT, Nat.reduceEqDiff, Nat.reduceAdd, Nat.reduceLeDiff, Nat.reduceSub, Nat.reduceMul, ↓reduceIte, reduceCtorEq, w_app_nl] at h8 h7
    simp (maxSteps := 1000000) only [go_sem, Int.reduceEq, Int.reduceLT, Int.reduceLE, Int.reduceToNat, Nat.reduceLT, Nat.reduceEqDiff, Nat.reduceAdd, Nat.reduceLeDiff, Nat.reduceSub, Nat.reduceMul, ↓reduceIte, reduceCtorEq, w_app_nl, h8]
    refine cond_d (fun hlt => ?_) (fun hge => ?_)
    · have hrs : r < size := by omega
      generalize hi : size - 1 - r = i at *
      have hi2 : size - r = i + 1 := by omega
      have hii : (size : Int) - 1 - r = (i : Int) := by omega
      have hnx : getL ((((sb s).drop at').take size).drop (size - (r + 1))) = (sb s).getD (at' + i) 0 + 256 * getL ((((sb s).drop at').take size).drop (i + 1)) := by
        rw [show size - (r + 1) = i by omega, drop_getD _ _ (by simp [sb_length]; omega), getL]
        congr 1
        rw [List.getD_eq_getElem?_getD, List.getD_eq_getElem?_getD, List.getElem?_take, if_pos (by omega), List.getElem?_drop]
      have hb := getL_bd ((((sb s).drop at').take size).drop (i + 1)) (fun x hx => sb_bd s x (List.mem_of_mem_drop (List.mem_of_mem_take (List.mem_of_mem_drop hx))))
      have hlen : ((((sb s).drop at').take size).drop (i + 1)).length ≤ 4 := by simp [sb_length]; omega
      have hb2 := pow256 _ hlen
      rw [hi2] at h7
      generalize getL ((((sb s).drop at').take size).drop (i + 1)) = y at *
      have hx := sb_getD_bd s (at' + i)
      simp only [hii] at h8 ⊢
      simp (maxSteps := 1000000) (disch := omega) only [go_sem, Int.reduceEq, Int.reduceLT, Int.reduceLE, Int.reduceToNat, Nat.reduceLT, Nat.reduceEqDiff, Nat.reduceAdd, Nat.reduceLeDiff, Nat.reduceSub, Nat.reduceMul, ↓reduceIte, reduceCtorEq, w_app_nl, wrap_id, h8, h7, bit_shl8, Option.some.injEq, exists_eq_left']
      have hsi := sidx_eq s ((at' : Int) + (i : Int)) (by omega) (by omega)
      rw [show ((at' : Int) + (i : Int)).toNat = at' + i by omega] at hsi
      simp only [show ((at' : Int) + (i : Int)).toNat = at' + i by omega]
      refine ⟨_, hsi, ?_⟩
      generalize (sb s).getD (at' + i) 0 = x at *
      simp (maxSteps := 1000000) (disch := omega) only [go_sem, Int.reduceEq, Int.reduceLT, Int.reduceLE, Int.reduceToNat, Nat.reduceLT, Nat.reduceEqDiff, Nat.reduceAdd, Nat.reduceLeDiff, Nat.reduceSub, Nat.reduceMul, ↓reduceIte, reduceCtorEq, w_app_nl, wrap_id, h8, h7, bit_or8, Option.some.injEq, exists_eq_left']
      repeat (refine And.intro (by first | omega | (rw [mxL]; omega) | (simp [maxLen]; done) | (simp [maxLen]; omega)) ?_)
      refine up_next hrs ⟨?_, ?_⟩
      · (try simp (maxSteps := 1000000) only [go_sem, Int.reduceEq, Int.reduceLT, Int.reduceLE, Int.reduceToNat, Nat.reduceLT, Nat.reduceEqDiff, Nat.reduceAdd, Nat.reduceLeDiff, Nat.reduceSub, Nat.reduceMul, ↓reduceIte, reduceCtorEq, w_app_nl]); congr 1; omega
      · simp (maxSteps := 1000000) only [go_sem, Int.reduceEq, Int.reduceLT, Int.reduceLE, Int.reduceToNat, Nat.reduceLT, Nat.reduceEqDiff, Nat.reduceAdd, Nat.reduceLeDiff, Nat.reduceSub, Nat.reduceMul, ↓reduceIte, reduceCtorEq, w_app_nl, hnx]
        congr 1; omega
    · simp (maxSteps := 1000000) only [go_sem, Int.reduceEq, Int.reduceLT, Int.reduceLE, Int.reduceToNat, Nat.reduceLT, Nat.reduceEqDiff, Nat.reduceAdd, Nat.reduceLeDiff, Nat.reduceSub, Nat.reduceMul, ↓reduceIte, reduceCtorEq, w_app_nl, h7]
      rw [show size - r = 0 by omega]
      exact Pub.of_eq rfl rfl
def bs (l : List Int) : ByteArray := ⟨(l.map fun n => UInt8.ofNat n.toNat).toArray⟩
def putB (n : Int) : Nat → List Int
  | 0 => []
  | k + 1 => (n % 256) :: putB (n / 256) k
theorem putB_snoc : ∀ (k : Nat) (n : Int), putB n (k + 1) = putB n k ++ [(n / 256 ^ k) % 256]
  | 0, n => by simp [putB]
  | k + 1, n => by
    rw [putB, putB_snoc k (n / 256)]
    simp only [putB, List.cons_append]
    rw [Int.ediv_ediv_of_nonneg (by omega : (0:Int) ≤ 256), Int.pow_succ, Int.mul_comm]
theorem putB_length : ∀ (k : Nat) (n : Int), (putB n k).length = k
  | 0, n => rfl
  | k + 1, n => by simp [putB, putB_length k]
theorem putB_bd : ∀ (k : Nat) (n : Int), ∀ x ∈ putB n k, 0 ≤ x ∧ x ≤ 255
  | 0, n, x, h => by simp [putB] at h
  | k + 1, n, x, h => by
    simp only [putB, List.mem_cons] at h
    rcases h with rfl | h
    · omega
    · exact putB_bd k _ x h
theorem bs_append (a b : List Int) : bs (a ++ b) = bs a ++ bs b := by
  simp only [bs, List.map_append]
  apply ByteArray.ext
  simp
theorem sb_bs (l : List Int) (h : ∀ x ∈ l, 0 ≤ x ∧ x ≤ 255) : sb (bs l) = l := by
  simp only [sb, bs, List.map_map]
  rw [List.map_congr_left (g := id) fun x hx => ?_, List.map_id]
  have := h x hx
  simp only [Function.comp, id, UInt8.toNat_ofNat']
  omega
theorem sb_append (a b : ByteArray) : sb (a ++ b) = sb a ++ sb b := by
  simp [sb]
theorem ok_ref28_Put (s : ByteArray) (n : Int) (k : Nat) (hs : s.size ≤ 1000000) (hk : k ≤ 5) : PC prog n_ref28_Put [.str s, .int .i64 n, .int .i64 k] (.str (s ++ bs (putB n k))) := by
  refine PC_of_body b_ref28_Put (by simp) ?_
  simp only [c_ref28_Put, go_sem, Int.reduceEq, Int.reduceLT, Int.reduceLE, Int.reduceToNat, Nat.reduceLT, Nat.reduceEqDiff, Nat.reduceAdd, Nat.reduceLeDiff, Nat.reduceSub, Nat.reduceMul, ↓reduceIte, reduceCtorEq, w_app_nl]
  refine awp_upF [0, 1, 2, 7, 8, 9, 10, 11, 12, 13, 14, 15, 16, 17, 18] (by kernel_rfl) k (fun r e _ => e 2 = .int .i64 ((k : Int) - r) ∧ e 1 = .int .i64 (n / 256 ^ r) ∧ e 0 = .str (s ++ bs (putB n r))) ?_ ?_
  · refine ⟨by simp [go_sem], by simp [go_sem], ?_⟩
    try simp (maxSteps := 1000000) only [go_sem, Int.reduceEq, Int.reduceLT, Int.reduceLE, Int.reduceToNat, Nat.reduceLT, Nat.reduceEqDiff, Nat.reduceAdd, Nat.reduceLeDiff, Nat.reduceSub, Nat.reduceMul, ↓reduceIte, reduceCtorEq, w_app_nl]
    congr 1
    apply ByteArray.ext
    simp [bs, putB]
  · rintro r fe ob c hr ⟨h2, h1, h0⟩
    simp (maxSteps := 1000000) only [go_sem, Int.reduceEq, Int.reduceLT, Int.reduceLE, Int.reduceToNat, Nat.reduceLT, Nat.reduceEqDiff, Nat.reduceAdd, Nat.reduceLeDiff, Nat.reduceSub, Nat.reduceMul, ↓reduceIte, reduceCtorEq, w_app_nl] at h2 h1 h0
    simp (maxSteps := 1000000) only [go_sem, Int.reduceEq, Int.reduceLT, Int.reduceLE, Int.reduceToNat, Nat.reduceLT, Nat.reduceEqDiff, Nat.reduceAdd, Nat.reduceLeDiff, Nat.reduceSub, Nat.reduceMul, ↓reduceIte, reduceCtorEq, w_app_nl, h2]
    refine cond_d (fun hlt => ?_) (fun hge => ?_)
    · have hrk : r < k := by omega
      simp (maxSteps := 1000000) (disch := omega) only [go_sem, Int.reduceEq, Int.reduceLT, Int.reduceLE, Int.reduceToNat, Nat.reduceLT, Nat.reduceEqDiff, Nat.reduceAdd, Nat.reduceLeDiff, Nat.reduceSub, Nat.reduceMul, ↓reduceIte, reduceCtorEq, w_app_nl, wrap_id, h2, h1, h0, bit_shr8, Option.some.injEq, exists_eq_left']
      refine ⟨[UInt8.ofNat (IntKind.u8.wrap (n / 256 ^ r)).toNat], rfl, ?_, up_next hrk ⟨?_, ?_, ?_⟩⟩
      · have : (bs (putB n r)).size = r := by rw [← sb_length, sb_bs _ (putB_bd _ _), putB_length]
        rw [this]; simp; omega
      · (try simp (maxSteps := 1000000) only [go_sem, Int.reduceEq, Int.reduceLT, Int.reduceLE, Int.reduceToNat, Nat.reduceLT, Nat.reduceEqDiff, Nat.reduceAdd, Nat.reduceLeDiff, Nat.reduceSub, Nat.reduceMul, ↓reduceIte, reduceCtorEq, w_app_nl]); congr 1; omega
      · (try simp (maxSteps := 1000000) only [go_sem, Int.reduceEq, Int.reduceLT, Int.reduceLE, Int.reduceToNat, Nat.reduceLT, Nat.reduceEqDiff, Nat.reduceAdd, Nat.reduceLeDiff, Nat.reduceSub, Nat.reduceMul, ↓reduceIte, reduceCtorEq, w_app_nl]); rw [Int.ediv_ediv_of_nonneg (Int.pow_nonneg (by omega)), Int.pow_succ]
      · try simp (maxSteps := 1000000) only [go_sem, Int.reduceEq, Int.reduceLT, Int.reduceLE, Int.reduceToNat, Nat.reduceLT, Nat.reduceEqDiff, Nat.reduceAdd, Nat.reduceLeDiff, Nat.reduceSub, Nat.reduceMul, ↓reduceIte, reduceCtorEq, w_app_nl]
        rw [putB_snoc, bs_append, ← ByteArray.append_assoc, wrap_u8]
        rfl
    · have : r = k := by omega
      subst this
      simp (maxSteps := 1000000) only [go_sem, Int.reduceEq, Int.reduceLT, Int.reduceLE, Int.reduceToNat, Nat.reduceLT, Nat.reduceEqDiff, Nat.reduceAdd, Nat.reduceLeDiff, Nat.reduceSub, Nat.reduceMul, ↓reduceIte, reduceCtorEq, w_app_nl, h0]
      exact Pub.of_eq rfl rfl
theorem eq_of_get {α : Type} {a b : List α} (hl : a.length = b.length) (h : ∀ j, j < a.length → a[j]? = b[j]?) : a = b := by
  apply List.ext_getElem? ; intro j
  by_cases hj : j < a.length
  · exact h j hj
  · rw [List.getElem?_eq_none (by omega), List.getElem?_eq_none (by omega)]
theorem ok_ref28_SameReadings (a b : List Rd) (ha : a.length ≤ 9223372036854775807) : PC prog n_ref28_SameReadings [.list 4 (rds a), .list 4 (rds b)] (.bool (decide (a = b))) := by
  refine PC_of_body b_ref28_SameReadings (by simp) ?_
  simp only [c_ref28_SameReadings, go_sem, Int.reduceEq, Int.reduceLT, Int.reduceLE, Int.reduceToNat, Nat.reduceLT, Nat.reduceEqDiff, Nat.reduceAdd, Nat.reduceLeDiff, Nat.reduceSub, Nat.reduceMul, ↓reduceIte, reduceCtorEq, w_app_nl, rds_length]
  refine cond_n (fun h => ?_) (fun h => ?_) <;> simp (maxSteps := 1000000) only [go_sem, Int.reduceEq, Int.reduceLT, Int.reduceLE, Int.reduceToNat, Nat.reduceLT, Nat.reduceEqDiff, Nat.reduceAdd, Nat.reduceLeDiff, Nat.reduceSub, Nat.reduceMul, ↓reduceIte, reduceCtorEq, w_app_nl]
  · exact Pub.of_eq (by congr 1; simp; intro hab; exact h (by rw [hab])) rfl
  have hl : a.length = b.length := by omega
  refine awp_upF [4, 5, 13, 14, 15, 16, 17, 18, 19, 20, 21, 22, 23, 24, 25] (by kernel_rfl) a.length (fun k e _ => e 13 = .int .i64 k ∧ ∀ j, j < k → a[j]? = b[j]?) ?_ ?_
  · simp [go_sem]
  · rintro k fe ob c hk ⟨h13, hj⟩
    simp (maxSteps := 1000000) only [go_sem, Int.reduceEq, Int.reduceLT, Int.reduceLE, Int.reduceToNat, Nat.reduceLT, Nat.reduceEqDiff, Nat.reduceAdd, Nat.reduceLeDiff, Nat.reduceSub, Nat.reduceMul, ↓reduceIte, reduceCtorEq, w_app_nl] at h13
    simp (maxSteps := 1000000) only [go_sem, Int.reduceEq, Int.reduceLT, Int.reduceLE, Int.reduceToNat, Nat.reduceLT, Nat.reduceEqDiff, Nat.reduceAdd, Nat.reduceLeDiff, Nat.reduceSub, Nat.reduceMul, ↓reduceIte, reduceCtorEq, w_app_nl, h13, rds_length]
    refine cond_d (fun hlt => ?_) (fun hge => ?_)
    · have hka : k < a.length := by omega
      have hga : a[k]? = some a[k] := List.getElem?_eq_getElem hka
      have hgb : b[k]? = some b[k] := List.getElem?_eq_getElem (by omega)
      simp (maxSteps := 1000000) (disch := omega) only [go_sem, Int.reduceEq, Int.reduceLT, Int.reduceLE, Int.reduceToNat, Nat.reduceLT, Nat.reduceEqDiff, Nat.reduceAdd, Nat.reduceLeDiff, Nat.reduceSub, Nat.reduceMul, ↓reduceIte, reduceCtorEq, w_app_nl, rds_length, rds_get, hga, hgb, h13, wrap_id, rdv]
      repeat (refine And.intro (by first | omega | (rw [mxL]; omega) | (simp [maxLen]; done) | (simp [maxLen]; omega)) ?_)
      refine cond_split (fun hne => ?_) (fun heq => ?_) <;> simp (maxSteps := 1000000) (disch := omega) only [go_sem, Int.reduceEq, Int.reduceLT, Int.reduceLE, Int.reduceToNat, Nat.reduceLT, Nat.reduceEqDiff, Nat.reduceAdd, Nat.reduceLeDiff, Nat.reduceSub, Nat.reduceMul, ↓reduceIte, reduceCtorEq, w_app_nl, h13, wrap_id]
      · refine Pub.of_eq ?_ rfl
        congr 1; symm; rw [decide_eq_false_iff_not]; intro hab; subst hab; simp at hne
      · refine up_next hka ⟨(by first | ((try simp (maxSteps := 1000000) only [go_sem, Int.reduceEq, Int.reduceLT, Int.reduceLE, Int.reduceToNat, Nat.reduceLT, Nat.reduceEqDiff, Nat.reduceAdd, Nat.reduceLeDiff, Nat.reduceSub, Nat.reduceMul, ↓reduceIte, reduceCtorEq, w_app_nl]); done) | ((try simp (maxSteps := 1000000) only [go_sem, Int.reduceEq, Int.reduceLT, Int.reduceLE, Int.reduceToNat, Nat.reduceLT, Nat.reduceEqDiff, Nat.reduceAdd, Nat.reduceLeDiff, Nat.reduceSub, Nat.reduceMul, ↓reduceIte, reduceCtorEq, w_app_nl]); rfl) | ((try simp (maxSteps := 1000000) (disch := omega) only [go_sem, Int.reduceEq, Int.reduceLT, Int.reduceLE, Int.reduceToNat, Nat.reduceLT, Nat.reduceEqDiff, Nat.reduceAdd, Nat.reduceLeDiff, Nat.reduceSub, Nat.reduceMul, ↓reduceIte, reduceCtorEq, w_app_nl, wrap_id, w_ite_ne, w_ite_lt]); rfl) | (simp (maxSteps := 1000000) (disch := omega) only [go_sem, Int.reduceEq, Int.reduceLT, Int.reduceLE, Int.reduceToNat, Nat.reduceLT, Nat.reduceEqDiff, Nat.reduceAdd, Nat.reduceLeDiff, Nat.reduceSub, Nat.reduceMul, ↓reduceIte, reduceCtorEq, w_app_nl, wrap_id, w_ite_ne, w_ite_lt]; done)), ?_⟩
        intro j hj'
        by_cases e : j = k
        · subst e; rw [hga, hgb]; congr 1
          simp at heq
          cases hx : a[j]; cases hy : b[j]
          rw [hx, hy] at heq; simp at heq ⊢; exact heq
        · exact hj j (by omega)
    · try simp (maxSteps := 1000000) only [go_sem, Int.reduceEq, Int.reduceLT, Int.reduceLE, Int.reduceToNat, Nat.reduceLT, Nat.reduceEqDiff, Nat.reduceAdd, Nat.reduceLeDiff, Nat.reduceSub, Nat.reduceMul, ↓reduceIte, reduceCtorEq, w_app_nl]
      exact Pub.of_eq (by congr 1; simp; exact eq_of_get hl fun j hj' => hj j (by omega)) rfl
theorem ok_ref28_SameFrame (a b : Fr) (ha : a.l.length ≤ 9223372036854775807) : PC prog n_ref28_SameFrame [frv a, frv b] (.bool (decide (a.s = b.s) && decide (a.n = b.n) && decide (a.l = b.l))) := by
  refine PC_of_body b_ref28_SameFrame (by simp) ?_
  simp only [c_ref28_SameFrame, go_sem, Int.reduceEq, Int.reduceLT, Int.reduceLE, Int.reduceToNat, Nat.reduceLT, Nat.reduceEqDiff, Nat.reduceAdd, Nat.reduceLeDiff, Nat.reduceSub, Nat.reduceMul, ↓reduceIte, reduceCtorEq, w_app_nl, frv]
  repeat (refine And.intro (by first | omega | (rw [mxL]; omega) | (simp [maxLen]; done) | (simp [maxLen]; omega)) ?_)
  refine gd_td rfl (fun h1 => ?_) (fun h1 => ?_) <;> simp (maxSteps := 1000000) only [go_sem, Int.reduceEq, Int.reduceLT, Int.reduceLE, Int.reduceToNat, Nat.reduceLT, Nat.reduceEqDiff, Nat.reduceAdd, Nat.reduceLeDiff, Nat.reduceSub, Nat.reduceMul, ↓reduceIte, reduceCtorEq, w_app_nl]
  · refine gd_td rfl (fun h2 => ?_) (fun h2 => ?_) <;> simp (maxSteps := 1000000) only [go_sem, Int.reduceEq, Int.reduceLT, Int.reduceLE, Int.reduceToNat, Nat.reduceLT, Nat.reduceEqDiff, Nat.reduceAdd, Nat.reduceLeDiff, Nat.reduceSub, Nat.reduceMul, ↓reduceIte, reduceCtorEq, w_app_nl]
    · refine call_pc (ok_ref28_SameReadings a.l b.l ha) (by simp [go_sem]) ?_
      try simp (maxSteps := 1000000) only [go_sem, Int.reduceEq, Int.reduceLT, Int.reduceLE, Int.reduceToNat, Nat.reduceLT, Nat.reduceEqDiff, Nat.reduceAdd, Nat.reduceLeDiff, Nat.reduceSub, Nat.reduceMul, ↓reduceIte, reduceCtorEq, w_app_nl]
      exact Pub.of_eq (by simp [h1, h2]) rfl
    · exact Pub.of_eq (by simp [h2]) rfl
  · exact Pub.of_eq (by simp [h1]) rfl
def rdB (r : Rd) : List Int := putB r.g 2 ++ putB r.t 4 ++ putB r.v 5 ++ putB r.f 1
def frB (f : Fr) : List Int := putB f.s 1 ++ putB f.n 4 ++ putB f.l.length 1 ++ f.l.flatMap rdB
def encS (f : Fr) : ByteArray := bs (frB f) ++ bs (putB (sumS (bs (frB f))) 4)
def encR (f : Fr) : ByteArray × Int := if frOk f then (encS f, 0) else (⟨#[]⟩, 3)
theorem bs_size (l : List Int) : (bs l).size = l.length := by rw [← sb_length, sb, bs]; simp
theorem rdB_length (r : Rd) : (rdB r).length = 12 := by simp [rdB, putB_length]
theorem rdsB_length : ∀ (l : List Rd), (l.flatMap rdB).length = 12 * l.length
  | [] => rfl
  | x :: l => by simp only [List.flatMap_cons, List.length_append, rdB_length, rdsB_length l, List.length_cons]; omega
theorem put_bs (L : List Int) (n : Int) (k : Nat) (hs : L.length ≤ 1000000) (hk : k ≤ 5) : PC prog n_ref28_Put [.str (bs L), .int .i64 n, .int .i64 k] (.str (bs (L ++ putB n k))) := by
  rw [bs_append]; exact ok_ref28_Put (bs L) n k (by rw [bs_size]; exact hs) hk
theorem put_nil (n : Int) (k : Nat) (hk : k ≤ 5) : PC prog n_ref28_Put [.str ⟨#[]⟩, .int .i64 n, .int .i64 k] (.str (bs (putB n k))) := put_bs [] n k (by simp) hk
theorem ok_ref28_Encode (f : Fr) (hl : f.l.length ≤ 9223372036854775807) : PC prog n_ref28_Encode [frv f] (.tuple [.str (encR f).1, .int .i64 (encR f).2]) := by
  refine PC_of_body b_ref28_Encode (by simp) ?_
  simp only [c_ref28_Encode, go_sem, Int.reduceEq, Int.reduceLT, Int.reduceLE, Int.reduceToNat, Nat.reduceLT, Nat.reduceEqDiff, Nat.reduceAdd, Nat.reduceLeDiff, Nat.reduceSub, Nat.reduceMul, ↓reduceIte, reduceCtorEq, w_app_nl, frv]
  refine call_pc (ok_ref28_Valid f hl) (by simp [go_sem, frv]) ?_
  try simp (maxSteps := 1000000) only [go_sem, Int.reduceEq, Int.reduceLT, Int.reduceLE, Int.reduceToNat, Nat.reduceLT, Nat.reduceEqDiff, Nat.reduceAdd, Nat.reduceLeDiff, Nat.reduceSub, Nat.reduceMul, ↓reduceIte, reduceCtorEq, w_app_nl]
  refine cond_split (fun h => ?_) (fun h => ?_) <;> simp (maxSteps := 1000000) only [go_sem, Int.reduceEq, Int.reduceLT, Int.reduceLE, Int.reduceToNat, Nat.reduceLT, Nat.reduceEqDiff, Nat.reduceAdd, Nat.reduceLeDiff, Nat.reduceSub, Nat.reduceMul, ↓reduceIte, reduceCtorEq, w_app_nl]
  · have h : frOk f = false := by simpa using h
    exact Pub.of_eq (by simp [encR, h]) rfl
  have h : frOk f = true := by simpa using h
  have h32 : f.l.length ≤ 32 := by simp [frOk] at h; exact h.1.2
  have hres : encR f = (encS f, 0) := by simp [encR, h]
  rw [hres]
  refine dcall_pc (put_nil f.s 1 (by omega)) (by simp [go_sem]) (by simp [go_sem]) ?_
  try simp (maxSteps := 1000000) only [go_sem, Int.reduceEq, Int.reduceLT, Int.reduceLE, Int.reduceToNat, Nat.reduceLT, Nat.reduceEqDiff, Nat.reduceAdd, Nat.reduceLeDiff, Nat.reduceSub, Nat.reduceMul, ↓reduceIte, reduceCtorEq, w_app_nl]
  refine dcall_pc (put_bs (putB f.s 1) f.n 4 (by simp [putB_length]) (by omega)) (by simp [go_sem]) (by simp [go_sem]) ?_
  simp (maxSteps := 1000000) only [go_sem, Int.reduceEq, Int.reduceLT, Int.reduceLE, Int.reduceToNat, Nat.reduceLT, Nat.reduceEqDiff, Nat.reduceAdd, Nat.reduceLeDiff, Nat.reduceSub, Nat.reduceMul, ↓reduceIte, reduceCtorEq, w_app_nl, rds_length]
  refine dcall_pc (put_bs (putB f.s 1 ++ putB f.n 4) f.l.length 1 (by simp [putB_length]) (by omega)) (by simp [go_sem]) (by simp [go_sem]) ?_
  simp (maxSteps := 1000000) only [go_sem, Int.reduceEq, Int.reduceLT, Int.reduceLE, Int.reduceToNat, Nat.reduceLT, Nat.reduceEqDiff, Nat.reduceAdd, Nat.reduceLeDiff, Nat.reduceSub, Nat.reduceMul, ↓reduceIte, reduceCtorEq, w_app_nl, rds_length]
  refine awp_upF [4, 6, 23, 24, 25, 26, 27, 28, 29, 30, 31, 32, 33, 34, 35, 36, 37, 38, 39, 40] (by kernel_rfl) f.l.length (fun k e σ => e 23 = .int .i64 k ∧ e 4 = .str (bs (putB f.s 1 ++ putB f.n 4 ++ putB f.l.length 1 ++ (f.l.take k).flatMap rdB)) ∧ σ.ob 0 = some ⟨0, 3, 36, false, true, [frv f]⟩) ?_ ?_
  · refine ⟨(by first | ((try simp (maxSteps := 1000000) only [go_sem, Int.reduceEq, Int.reduceLT, Int.reduceLE, Int.reduceToNat, Nat.reduceLT, Nat.reduceEqDiff, Nat.reduceAdd, Nat.reduceLeDiff, Nat.reduceSub, Nat.reduceMul, ↓reduceIte, reduceCtorEq, w_app_nl]); done) | ((try simp (maxSteps := 1000000) only [go_sem, Int.reduceEq, Int.reduceLT, Int.reduceLE, Int.reduceToNat, Nat.reduceLT, Nat.reduceEqDiff, Nat.reduceAdd, Nat.reduceLeDiff, Nat.reduceSub, Nat.reduceMul, ↓reduceIte, reduceCtorEq, w_app_nl]); rfl) | ((try simp (maxSteps := 1000000) (disch := omega) only [go_sem, Int.reduceEq, Int.reduceLT, Int.reduceLE, Int.reduceToNat, Nat.reduceLT, Nat.reduceEqDiff, Nat.reduceAdd, Nat.reduceLeDiff, Nat.reduceSub, Nat.reduceMul, ↓reduceIte, reduceCtorEq, w_app_nl, wrap_id, w_ite_ne, w_ite_lt]); rfl) | (simp (maxSteps := 1000000) (disch := omega) only [go_sem, Int.reduceEq, Int.reduceLT, Int.reduceLE, Int.reduceToNat, Nat.reduceLT, Nat.reduceEqDiff, Nat.reduceAdd, Nat.reduceLeDiff, Nat.reduceSub, Nat.reduceMul, ↓reduceIte, reduceCtorEq, w_app_nl, wrap_id, w_ite_ne, w_ite_lt]; done)), ?_, ?_⟩
    · (try simp (maxSteps := 1000000) only [go_sem, Int.reduceEq, Int.reduceLT, Int.reduceLE, Int.reduceToNat, Nat.reduceLT, Nat.reduceEqDiff, Nat.reduceAdd, Nat.reduceLeDiff, Nat.reduceSub, Nat.reduceMul, ↓reduceIte, reduceCtorEq, w_app_nl]); simp
    · simp (maxSteps := 1000000) only [go_sem, Int.reduceEq, Int.reduceLT, Int.reduceLE, Int.reduceToNat, Nat.reduceLT, Nat.reduceEqDiff, Nat.reduceAdd, Nat.reduceLeDiff, Nat.reduceSub, Nat.reduceMul, ↓reduceIte, reduceCtorEq, w_app_nl, frv]
  · rintro k fe ob c hk ⟨h23, h4, hob⟩
    simp (maxSteps := 1000000) only [go_sem, Int.reduceEq, Int.reduceLT, Int.reduceLE, Int.reduceToNat, Nat.reduceLT, Nat.reduceEqDiff, Nat.reduceAdd, Nat.reduceLeDiff, Nat.reduceSub, Nat.reduceMul, ↓reduceIte, reduceCtorEq, w_app_nl] at h23 h4 hob
    simp (maxSteps := 1000000) only [go_sem, Int.reduceEq, Int.reduceLT, Int.reduceLE, Int.reduceToNat, Nat.reduceLT, Nat.reduceEqDiff, Nat.reduceAdd, Nat.reduceLeDiff, Nat.reduceSub, Nat.reduceMul, ↓reduceIte, reduceCtorEq, w_app_nl, h23]
    refine cond_d (fun hlt => ?_) (fun hge => ?_)
    · have hkl : k < f.l.length := by omega
      have hk2 : f.l[k]? = some f.l[k] := List.getElem?_eq_getElem hkl
      have htk : f.l.take (k + 1) = f.l.take k ++ [f.l[k]] := by rw [List.take_add_one, hk2]; rfl
      generalize hL : putB f.s 1 ++ putB f.n 4 ++ putB f.l.length 1 ++ (f.l.take k).flatMap rdB = L at *
      have hLl : L.length ≤ 1000 := by
        rw [← hL]; simp only [List.length_append, putB_length, rdsB_length, List.length_take]; omega
      generalize f.l[k] = x at *
      simp (maxSteps := 1000000) (disch := omega) only [go_sem, Int.reduceEq, Int.reduceLT, Int.reduceLE, Int.reduceToNat, Nat.reduceLT, Nat.reduceEqDiff, Nat.reduceAdd, Nat.reduceLeDiff, Nat.reduceSub, Nat.reduceMul, ↓reduceIte, reduceCtorEq, w_app_nl, wrap_id, h23, h4, rds_length, rds_get, hk2, rdv]
      repeat (refine And.intro (by first | omega | (rw [mxL]; omega) | (simp [maxLen]; done) | (simp [maxLen]; omega)) ?_)
      refine dcall_pc (put_bs L x.g 2 (by omega) (by omega)) (by simp [go_sem]) (by simp [go_sem]) ?_
      simp (maxSteps := 1000000) (disch := omega) only [go_sem, Int.reduceEq, Int.reduceLT, Int.reduceLE, Int.reduceToNat, Nat.reduceLT, Nat.reduceEqDiff, Nat.reduceAdd, Nat.reduceLeDiff, Nat.reduceSub, Nat.reduceMul, ↓reduceIte, reduceCtorEq, w_app_nl, wrap_id, h23, h4]
      refine dcall_pc (put_bs (L ++ putB x.g 2) x.t 4 (by simp [putB_length]; omega) (by omega)) (by simp [go_sem]) (by simp [go_sem]) ?_
      simp (maxSteps := 1000000) (disch := omega) only [go_sem, Int.reduceEq, Int.reduceLT, Int.reduceLE, Int.reduceToNat, Nat.reduceLT, Nat.reduceEqDiff, Nat.reduceAdd, Nat.reduceLeDiff, Nat.reduceSub, Nat.reduceMul, ↓reduceIte, reduceCtorEq, w_app_nl, wrap_id, h23, h4]
      refine dcall_pc (put_bs (L ++ putB x.g 2 ++ putB x.t 4) x.v 5 (by simp [putB_length]; omega) (by omega)) (by simp [go_sem]) (by simp [go_sem]) ?_
      simp (maxSteps := 1000000) (disch := omega) only [go_sem, Int.reduceEq, Int.reduceLT, Int.reduceLE, Int.reduceToNat, Nat.reduceLT, Nat.reduceEqDiff, Nat.reduceAdd, Nat.reduceLeDiff, Nat.reduceSub, Nat.reduceMul, ↓reduceIte, reduceCtorEq, w_app_nl, wrap_id, h23, h4]
      refine dcall_pc (put_bs (L ++ putB x.g 2 ++ putB x.t 4 ++ putB x.v 5) x.f 1 (by simp [putB_length]; omega) (by omega)) (by simp [go_sem]) (by simp [go_sem]) ?_
      simp (maxSteps := 1000000) (disch := omega) only [go_sem, Int.reduceEq, Int.reduceLT, Int.reduceLE, Int.reduceToNat, Nat.reduceLT, Nat.reduceEqDiff, Nat.reduceAdd, Nat.reduceLeDiff, Nat.reduceSub, Nat.reduceMul, ↓reduceIte, reduceCtorEq, w_app_nl, wrap_id, h23, h4]
      try repeat (refine And.intro (by first | omega | (rw [mxL]; omega) | (simp [maxLen]; done) | (simp [maxLen]; omega)) ?_)
      refine up_next hkl ⟨(by first | ((try simp (maxSteps := 1000000) only [go_sem, Int.reduceEq, Int.reduceLT, Int.reduceLE, Int.reduceToNat, Nat.reduceLT, Nat.reduceEqDiff, Nat.reduceAdd, Nat.reduceLeDiff, Nat.reduceSub, Nat.reduceMul, ↓reduceIte, reduceCtorEq, w_app_nl]); done) | ((try simp (maxSteps := 1000000) only [go_sem, Int.reduceEq, Int.reduceLT, Int.reduceLE, Int.reduceToNat, Nat.reduceLT, Nat.reduceEqDiff, Nat.reduceAdd, Nat.reduceLeDiff, Nat.reduceSub, Nat.reduceMul, ↓reduceIte, reduceCtorEq, w_app_nl]); rfl) | ((try simp (maxSteps := 1000000) (disch := omega) only [go_sem, Int.reduceEq, Int.reduceLT, Int.reduceLE, Int.reduceToNat, Nat.reduceLT, Nat.reduceEqDiff, Nat.reduceAdd, Nat.reduceLeDiff, Nat.reduceSub, Nat.reduceMul, ↓reduceIte, reduceCtorEq, w_app_nl, wrap_id, w_ite_ne, w_ite_lt]); rfl) | (simp (maxSteps := 1000000) (disch := omega) only [go_sem, Int.reduceEq, Int.reduceLT, Int.reduceLE, Int.reduceToNat, Nat.reduceLT, Nat.reduceEqDiff, Nat.reduceAdd, Nat.reduceLeDiff, Nat.reduceSub, Nat.reduceMul, ↓reduceIte, reduceCtorEq, w_app_nl, wrap_id, w_ite_ne, w_ite_lt]; done)), ?_, ?_⟩
      · try simp (maxSteps := 1000000) only [go_sem, Int.reduceEq, Int.reduceLT, Int.reduceLE, Int.reduceToNat, Nat.reduceLT, Nat.reduceEqDiff, Nat.reduceAdd, Nat.reduceLeDiff, Nat.reduceSub, Nat.reduceMul, ↓reduceIte, reduceCtorEq, w_app_nl]
        rw [htk, List.flatMap_append, ← List.append_assoc, hL]
        simp [rdB]
      · (try simp (maxSteps := 1000000) only [go_sem, Int.reduceEq, Int.reduceLT, Int.reduceLE, Int.reduceToNat, Nat.reduceLT, Nat.reduceEqDiff, Nat.reduceAdd, Nat.reduceLeDiff, Nat.reduceSub, Nat.reduceMul, ↓reduceIte, reduceCtorEq, w_app_nl]); exact hob
    · have hkl : k = f.l.length := by omega
      subst hkl
      rw [List.take_length] at h4
      have hfb : putB f.s 1 ++ putB f.n 4 ++ putB f.l.length 1 ++ f.l.flatMap rdB = frB f := rfl
      rw [hfb] at h4
      have hlen : (frB f).length ≤ 1000 := by
        rw [← hfb]; simp only [List.length_append, putB_length, rdsB_length]; omega
      simp (maxSteps := 1000000) (disch := omega) only [go_sem, Int.reduceEq, Int.reduceLT, Int.reduceLE, Int.reduceToNat, Nat.reduceLT, Nat.reduceEqDiff, Nat.reduceAdd, Nat.reduceLeDiff, Nat.reduceSub, Nat.reduceMul, ↓reduceIte, reduceCtorEq, w_app_nl, wrap_id, h4]
      refine call_pc (ok_ref28_Sum (bs (frB f)) (by rw [bs_size]; omega)) (by simp [go_sem]) ?_
      try simp (maxSteps := 1000000) only [go_sem, Int.reduceEq, Int.reduceLT, Int.reduceLE, Int.reduceToNat, Nat.reduceLT, Nat.reduceEqDiff, Nat.reduceAdd, Nat.reduceLeDiff, Nat.reduceSub, Nat.reduceMul, ↓reduceIte, reduceCtorEq, w_app_nl]
      refine call_pc (put_bs (frB f) (sumS (bs (frB f))) 4 (by omega) (by omega)) (by simp [go_sem]) ?_
      try simp (maxSteps := 1000000) only [go_sem, Int.reduceEq, Int.reduceLT, Int.reduceLE, Int.reduceToNat, Nat.reduceLT, Nat.reduceEqDiff, Nat.reduceAdd, Nat.reduceLeDiff, Nat.reduceSub, Nat.reduceMul, ↓reduceIte, reduceCtorEq, w_app_nl]
      exact Pub.of_eq (by rw [bs_append]; rfl) (by simp [go_sem, AV.pur])
def getS (s : ByteArray) (at' k : Nat) : Int := getL (((sb s).drop at').take k)
def rdAt (s : ByteArray) (at' : Nat) : Rd := ⟨getS s at' 2, getS s (at' + 2) 4, getS s (at' + 6) 5, getS s (at' + 11) 1⟩
def rdsAt (s : ByteArray) (k : Nat) : List Rd := (List.range k).map fun i => rdAt s (6 + 12 * i)
def frAt (s : ByteArray) : Fr := ⟨getS s 0 1, getS s 1 4, rdsAt s ((sb s).getD 5 0).toNat⟩
def decR (s : ByteArray) : Fr × Int :=
  if s.size < 10 ∨ (s.size : Int) ≠ 10 + 12 * (sb s).getD 5 0 then (⟨0, 0, []⟩, 7)
  else if getS s (s.size - 4) 4 ≠ sumS (s.extract 0 (s.size - 4)) then (⟨0, 0, []⟩, 8)
  else if frOk (frAt s) then (frAt s, 0) else (⟨0, 0, []⟩, 3)
theorem rdsAt_succ (s : ByteArray) (k : Nat) : rdsAt s (k + 1) = rdsAt s k ++ [rdAt s (6 + 12 * k)] := by simp [rdsAt, List.range_succ]
theorem rdsAt_length (s : ByteArray) (k : Nat) : (rdsAt s k).length = k := by simp [rdsAt]
theorem Pub.agg3 {σ : St} {a b c a' b' c' : AV} (h1 : Pub σ a a') (h2 : Pub σ b b') (h3 : Pub σ c c') : Pub σ (.agg [a, b, c]) (.agg [a', b', c']) := by
  refine .agg rfl fun i x y hx hy => ?_
  match i with
  | 0 => simp at hx hy; subst hx; subst hy; exact h1
  | 1 => simp at hx hy; subst hx; subst hy; exact h2
  | 2 => simp at hx hy; subst hx; subst hy; exact h3
  | i + 3 => simp at hx
theorem rds_snoc (l : List Rd) (r : Rd) : rds l ++ [rdv r] = rds (l ++ [r]) := by simp [rds]
theorem tval (s : ByteArray) (a k : Int) (hs : s.size ≤ 4611686018427387904) (h0 : 0 ≤ a) (hk : 0 ≤ k ∧ k ≤ 5) (h : a + k ≤ s.size) : PC prog n_telemetry_value [.str s, .int .i64 a, .int .i64 k] (.int .i64 (getS s a.toNat k.toNat)) := by
  have := ok_telemetry_value s a.toNat k.toNat hs (by omega) (by omega)
  rwa [Int.toNat_of_nonneg h0, Int.toNat_of_nonneg hk.1] at this
theorem rget (s : ByteArray) (a k : Int) (hs : s.size ≤ 4611686018427387904) (h0 : 0 ≤ a) (hk : 0 ≤ k ∧ k ≤ 5) (h : a + k ≤ s.size) : PC prog n_ref28_Get [.str s, .int .i64 a, .int .i64 k] (.int .i64 (getS s a.toNat k.toNat)) := by
  have := ok_ref28_Get s a.toNat k.toNat hs (by omega) (by omega)
  rwa [Int.toNat_of_nonneg h0, Int.toNat_of_nonneg hk.1] at this
theorem ok_telemetry_Decode (s : ByteArray) (hs : s.size ≤ 4611686018427387904) : PC prog n_telemetry_Decode [.str s] (.tuple [frv (decR s).1, .int .i64 (decR s).2]) := by
  refine PC_of_body b_telemetry_Decode (by simp) ?_
  simp only [c_telemetry_Decode, go_sem, Int.reduceEq, Int.reduceLT, Int.reduceLE, Int.reduceToNat, Nat.reduceLT, Nat.reduceEqDiff, Nat.reduceAdd, Nat.reduceLeDiff, Nat.reduceSub, Nat.reduceMul, ↓reduceIte, reduceCtorEq, w_app_nl]
  have zero : ∀ {σ : St} (e : Int), decR s = (⟨0, 0, []⟩, e) → Pub σ (.tuple [.agg [.int .i64 0, .int .i64 0, .nil], .int .i64 e]) (.tuple [frv (decR s).1, .int .i64 (decR s).2]) := by
    intro σ e h
    rw [h]
    exact Pub.pair (Pub.agg3 (.pure rfl) (.pure rfl) (.nl 4)) (.pure rfl)
  refine gd_fd rfl (fun h1 => ?_) (fun h1 => ?_) <;> simp (maxSteps := 1000000) only [go_sem, Int.reduceEq, Int.reduceLT, Int.reduceLE, Int.reduceToNat, Nat.reduceLT, Nat.reduceEqDiff, Nat.reduceAdd, Nat.reduceLeDiff, Nat.reduceSub, Nat.reduceMul, ↓reduceIte, reduceCtorEq, w_app_nl]
  · exact zero 7 (by unfold decR; rw [if_pos (.inl (by omega))])
  have h10 : 10 ≤ s.size := by omega
  have hx := sb_getD_bd s 5
  refine ⟨_, sidxN s 5 (by omega), ?_⟩
  simp (maxSteps := 1000000) (disch := omega) only [go_sem, Int.reduceEq, Int.reduceLT, Int.reduceLE, Int.reduceToNat, Nat.reduceLT, Nat.reduceEqDiff, Nat.reduceAdd, Nat.reduceLeDiff, Nat.reduceSub, Nat.reduceMul, ↓reduceIte, reduceCtorEq, w_app_nl, wrap_id]
  refine cond_n (fun h2 => ?_) (fun h2 => ?_) <;> simp (maxSteps := 1000000) (disch := omega) only [go_sem, Int.reduceEq, Int.reduceLT, Int.reduceLE, Int.reduceToNat, Nat.reduceLT, Nat.reduceEqDiff, Nat.reduceAdd, Nat.reduceLeDiff, Nat.reduceSub, Nat.reduceMul, ↓reduceIte, reduceCtorEq, w_app_nl, wrap_id]
  · exact zero 7 (by unfold decR; rw [if_pos (.inr h2)])
  obtain ⟨cn, hcn⟩ : ∃ cn : Nat, (sb s).getD 5 0 = cn := ⟨_, (Int.toNat_of_nonneg hx.1).symm⟩
  have hsz : s.size = 10 + 12 * cn := by omega
  have hc5 : ((sb s).getD 5 0).toNat = cn := by omega
  refine dcall_pc (tval s (s.size - 4) 4 hs (by omega) (by omega) (by omega)) (by simp [go_sem]) (by simp [go_sem]) ?_
  simp (maxSteps := 1000000) (disch := omega) only [go_sem, Int.reduceEq, Int.reduceLT, Int.reduceLE, Int.reduceToNat, Nat.reduceLT, Nat.reduceEqDiff, Nat.reduceAdd, Nat.reduceLeDiff, Nat.reduceSub, Nat.reduceMul, ↓reduceIte, reduceCtorEq, w_app_nl, wrap_id]
  repeat (refine And.intro (by first | omega | (rw [mxL]; omega) | (simp [maxLen]; done) | (simp [maxLen]; omega)) ?_)
  refine dcall_pc (ok_telemetry_Sum (s.extract 0 ((s.size : Int) - 4).toNat) (by simp; omega)) (by simp [go_sem]) (by simp [go_sem]) ?_
  have ht4 : ((s.size : Int) - 4).toNat = s.size - 4 := by omega
  simp (maxSteps := 1000000) (disch := omega) only [go_sem, Int.reduceEq, Int.reduceLT, Int.reduceLE, Int.reduceToNat, Nat.reduceLT, Nat.reduceEqDiff, Nat.reduceAdd, Nat.reduceLeDiff, Nat.reduceSub, Nat.reduceMul, ↓reduceIte, reduceCtorEq, w_app_nl, wrap_id, ht4]
  refine cond_n (fun h3 => ?_) (fun h3 => ?_) <;> simp (maxSteps := 1000000) (disch := omega) only [go_sem, Int.reduceEq, Int.reduceLT, Int.reduceLE, Int.reduceToNat, Nat.reduceLT, Nat.reduceEqDiff, Nat.reduceAdd, Nat.reduceLeDiff, Nat.reduceSub, Nat.reduceMul, ↓reduceIte, reduceCtorEq, w_app_nl, wrap_id]
  · exact zero 8 (by unfold decR; rw [if_neg (by omega), if_pos h3])
  refine call_pc (tval s 0 1 hs (by omega) (by omega) (by omega)) (by simp [go_sem]) ?_
  simp (maxSteps := 1000000) (disch := omega) only [go_sem, Int.reduceEq, Int.reduceLT, Int.reduceLE, Int.reduceToNat, Nat.reduceLT, Nat.reduceEqDiff, Nat.reduceAdd, Nat.reduceLeDiff, Nat.reduceSub, Nat.reduceMul, ↓reduceIte, reduceCtorEq, w_app_nl, wrap_id]
  refine call_pc (tval s 1 4 hs (by omega) (by omega) (by omega)) (by simp [go_sem]) ?_
  simp (maxSteps := 1000000) (disch := omega) only [go_sem, Int.reduceEq, Int.reduceLT, Int.reduceLE, Int.reduceToNat, Nat.reduceLT, Nat.reduceEqDiff, Nat.reduceAdd, Nat.reduceLeDiff, Nat.reduceSub, Nat.reduceMul, ↓reduceIte, reduceCtorEq, w_app_nl, wrap_id]
  have hfin : decR s = if frOk (frAt s) then (frAt s, 0) else (⟨0, 0, []⟩, 3) := by unfold decR; rw [if_neg (by omega), if_neg (by omega)]
  refine awp_upG [6, 38, 39, 40, 41, 42, 43, 44, 45, 46, 47, 48, 49, 50, 51, 52, 53, 54, 55, 56, 57, 58, 59, 60, 61, 62, 63] (by kernel_rfl) cn (fun r e σ => e 6 = .int .i64 (6 + 12 * r) ∧ σ.ob 0 = some ⟨0, 3, 36, false, true, [.agg [.int .i64 0, .int .i64 0, .nil]]⟩ ∧
    ∃ X, σ.ob 1 = some ⟨1, 3, 36, false, true, [.agg [.int .i64 (getS s 0 1), .int .i64 (getS s 1 4), X]]⟩ ∧ (r = 0 ∧ X = .nil ∨ ∃ k g, X = .sl k g 4 0 r ∧ 1 < k ∧ k < σ.n ∧ σ.ob k = some ⟨g, 4, 34, false, true, rds (rdsAt s r)⟩)) ?_ ?_
  · refine ⟨(by first | ((try simp (maxSteps := 1000000) only [go_sem, Int.reduceEq, Int.reduceLT, Int.reduceLE, Int.reduceToNat, Nat.reduceLT, Nat.reduceEqDiff, Nat.reduceAdd, Nat.reduceLeDiff, Nat.reduceSub, Nat.reduceMul, ↓reduceIte, reduceCtorEq, w_app_nl]); done) | ((try simp (maxSteps := 1000000) only [go_sem, Int.reduceEq, Int.reduceLT, Int.reduceLE, Int.reduceToNat, Nat.reduceLT, Nat.reduceEqDiff, Nat.reduceAdd, Nat.reduceLeDiff, Nat.reduceSub, Nat.reduceMul, ↓reduceIte, reduceCtorEq, w_app_nl]); rfl) | ((try simp (maxSteps := 1000000) (disch := omega) only [go_sem, Int.reduceEq, Int.reduceLT, Int.reduceLE, Int.reduceToNat, Nat.reduceLT, Nat.reduceEqDiff, Nat.reduceAdd, Nat.reduceLeDiff, Nat.reduceSub, Nat.reduceMul, ↓reduceIte, reduceCtorEq, w_app_nl, wrap_id, w_ite_ne, w_ite_lt]); rfl) | (simp (maxSteps := 1000000) (disch := omega) only [go_sem, Int.reduceEq, Int.reduceLT, Int.reduceLE, Int.reduceToNat, Nat.reduceLT, Nat.reduceEqDiff, Nat.reduceAdd, Nat.reduceLeDiff, Nat.reduceSub, Nat.reduceMul, ↓reduceIte, reduceCtorEq, w_app_nl, wrap_id, w_ite_ne, w_ite_lt]; done)), by first | rfl | simp (maxSteps := 1000000) only [go_sem, Int.reduceEq, Int.reduceLT, Int.reduceLE, Int.reduceToNat, Nat.reduceLT, Nat.reduceEqDiff, Nat.reduceAdd, Nat.reduceLeDiff, Nat.reduceSub, Nat.reduceMul, ↓reduceIte, reduceCtorEq, w_app_nl], .nil, by first | rfl | simp (maxSteps := 1000000) only [go_sem, Int.reduceEq, Int.reduceLT, Int.reduceLE, Int.reduceToNat, Nat.reduceLT, Nat.reduceEqDiff, Nat.reduceAdd, Nat.reduceLeDiff, Nat.reduceSub, Nat.reduceMul, ↓reduceIte, reduceCtorEq, w_app_nl], .inl ⟨rfl, rfl⟩⟩
  · rintro r fe ob m c hr hm ⟨h6, ho0, X, ho1, hX⟩
    simp (maxSteps := 1000000) only [go_sem, Int.reduceEq, Int.reduceLT, Int.reduceLE, Int.reduceToNat, Nat.reduceLT, Nat.reduceEqDiff, Nat.reduceAdd, Nat.reduceLeDiff, Nat.reduceSub, Nat.reduceMul, ↓reduceIte, reduceCtorEq, w_app_nl] at h6 ho0 ho1 hX
    simp (maxSteps := 1000000) only [go_sem, Int.reduceEq, Int.reduceLT, Int.reduceLE, Int.reduceToNat, Nat.reduceLT, Nat.reduceEqDiff, Nat.reduceAdd, Nat.reduceLeDiff, Nat.reduceSub, Nat.reduceMul, ↓reduceIte, reduceCtorEq, w_app_nl, h6]
    refine cond_d (fun hlt => ?_) (fun hge => ?_)
    · have hrc : r < cn := by omega
      simp (maxSteps := 1000000) (disch := omega) only [go_sem, Int.reduceEq, Int.reduceLT, Int.reduceLE, Int.reduceToNat, Nat.reduceLT, Nat.reduceEqDiff, Nat.reduceAdd, Nat.reduceLeDiff, Nat.reduceSub, Nat.reduceMul, ↓reduceIte, reduceCtorEq, w_app_nl, wrap_id, h6, ho0, ho1]
      have hm2 : 2 ≤ m := hm
      clear hm
      have e2 : (6 + 12 * (r : Int)).toNat = 6 + 12 * r := by omega
      have e3 : (6 + 12 * (r : Int) + 2).toNat = 6 + 12 * r + 2 := by omega
      have e4 : (6 + 12 * (r : Int) + 6).toNat = 6 + 12 * r + 6 := by omega
      have e5 : (6 + 12 * (r : Int) + 11).toNat = 6 + 12 * r + 11 := by omega
      refine dcall_pc (tval s (6 + 12 * r) 2 hs (by omega) (by omega) (by omega)) (by simp [go_sem]) (by simp [go_sem]) ?_
      simp (maxSteps := 1000000) (disch := omega) only [go_sem, Int.reduceEq, Int.reduceLT, Int.reduceLE, Int.reduceToNat, Nat.reduceLT, Nat.reduceEqDiff, Nat.reduceAdd, Nat.reduceLeDiff, Nat.reduceSub, Nat.reduceMul, ↓reduceIte, reduceCtorEq, w_app_nl, wrap_id, h6]
      refine dcall_pc (tval s (6 + 12 * r + 2) 4 hs (by omega) (by omega) (by omega)) (by simp [go_sem]) (by simp [go_sem]) ?_
      simp (maxSteps := 1000000) (disch := omega) only [go_sem, Int.reduceEq, Int.reduceLT, Int.reduceLE, Int.reduceToNat, Nat.reduceLT, Nat.reduceEqDiff, Nat.reduceAdd, Nat.reduceLeDiff, Nat.reduceSub, Nat.reduceMul, ↓reduceIte, reduceCtorEq, w_app_nl, wrap_id, h6]
      refine dcall_pc (tval s (6 + 12 * r + 6) 5 hs (by omega) (by omega) (by omega)) (by simp [go_sem]) (by simp [go_sem]) ?_
      simp (maxSteps := 1000000) (disch := omega) only [go_sem, Int.reduceEq, Int.reduceLT, Int.reduceLE, Int.reduceToNat, Nat.reduceLT, Nat.reduceEqDiff, Nat.reduceAdd, Nat.reduceLeDiff, Nat.reduceSub, Nat.reduceMul, ↓reduceIte, reduceCtorEq, w_app_nl, wrap_id, h6]
      refine dcall_pc (tval s (6 + 12 * r + 11) 1 hs (by omega) (by omega) (by omega)) (by simp [go_sem]) (by simp [go_sem]) ?_
      simp (maxSteps := 1000000) (disch := omega) only [go_sem, Int.reduceEq, Int.reduceLT, Int.reduceLE, Int.reduceToNat, Nat.reduceLT, Nat.reduceEqDiff, Nat.reduceAdd, Nat.reduceLeDiff, Nat.reduceSub, Nat.reduceMul, ↓reduceIte, reduceCtorEq, w_app_nl, wrap_id, h6, e2, e3, e4, e5]
      have hrd : AV.agg [.int .i64 (getS s (6 + 12 * r) 2), .int .i64 (getS s (6 + 12 * r + 2) 4), .int .i64 (getS s (6 + 12 * r + 6) 5), .int .i64 (getS s (6 + 12 * r + 11) 1)] = rdv (rdAt s (6 + 12 * r)) := rfl
      rcases hX with ⟨hr0, rfl⟩ | ⟨k, g, rfl, hk1, hkm, hk⟩
      · subst hr0
        simp (maxSteps := 1000000) (disch := omega) only [go_sem, Int.reduceEq, Int.reduceLT, Int.reduceLE, Int.reduceToNat, Nat.reduceLT, Nat.reduceEqDiff, Nat.reduceAdd, Nat.reduceLeDiff, Nat.reduceSub, Nat.reduceMul, ↓reduceIte, reduceCtorEq, w_app_nl, wrap_id, h6, ho0, ho1]
        repeat (refine And.intro (by first | omega | (rw [mxL]; omega) | (simp [maxLen]; done) | (simp [maxLen]; omega)) ?_)
        have n1 : ¬ m + 19 = 1 := by omega
        have n2 : ¬ (0 : Nat) = m + 19 := by omega
        refine up_nextG (m + 22) hrc (by omega) ⟨?_, ?_, .sl (m + 19) (c + 19) 4 0 1, ?_, .inr ⟨m + 19, c + 19, rfl, by omega, ?_, ?_⟩⟩
        · (try simp (maxSteps := 1000000) only [go_sem, Int.reduceEq, Int.reduceLT, Int.reduceLE, Int.reduceToNat, Nat.reduceLT, Nat.reduceEqDiff, Nat.reduceAdd, Nat.reduceLeDiff, Nat.reduceSub, Nat.reduceMul, ↓reduceIte, reduceCtorEq, w_app_nl]); try (congr 1)
        · simp (maxSteps := 1000000) only [go_sem, Int.reduceEq, Int.reduceLT, Int.reduceLE, Int.reduceToNat, Nat.reduceLT, Nat.reduceEqDiff, Nat.reduceAdd, Nat.reduceLeDiff, Nat.reduceSub, Nat.reduceMul, ↓reduceIte, reduceCtorEq, w_app_nl, n2]
          rw [if_pos (by omega)]; exact ho0
        · try simp (maxSteps := 1000000) only [go_sem, Int.reduceEq, Int.reduceLT, Int.reduceLE, Int.reduceToNat, Nat.reduceLT, Nat.reduceEqDiff, Nat.reduceAdd, Nat.reduceLeDiff, Nat.reduceSub, Nat.reduceMul, ↓reduceIte, reduceCtorEq, w_app_nl]
          rw [if_pos (by omega)]
        · (try simp (maxSteps := 1000000) only [go_sem, Int.reduceEq, Int.reduceLT, Int.reduceLE, Int.reduceToNat, Nat.reduceLT, Nat.reduceEqDiff, Nat.reduceAdd, Nat.reduceLeDiff, Nat.reduceSub, Nat.reduceMul, ↓reduceIte, reduceCtorEq, w_app_nl]); omega
        · simp (maxSteps := 1000000) only [go_sem, Int.reduceEq, Int.reduceLT, Int.reduceLE, Int.reduceToNat, Nat.reduceLT, Nat.reduceEqDiff, Nat.reduceAdd, Nat.reduceLeDiff, Nat.reduceSub, Nat.reduceMul, ↓reduceIte, reduceCtorEq, w_app_nl, n1]
          rw [if_pos (by omega), rdsAt_succ]; rfl
      · have n1 : ¬ 1 = k := by omega
        have n2 : ¬ k = 1 := by omega
        have n3 : ¬ 0 = k := by omega
        simp (maxSteps := 1000000) (disch := omega) only [go_sem, Int.reduceEq, Int.reduceLT, Int.reduceLE, Int.reduceToNat, Nat.reduceLT, Nat.reduceEqDiff, Nat.reduceAdd, Nat.reduceLeDiff, Nat.reduceSub, Nat.reduceMul, ↓reduceIte, reduceCtorEq, w_app_nl, wrap_id, h6, ho0, ho1, hk, rds_length, rdsAt_length, n1, n2, n3]
        repeat (refine And.intro (by first | omega | (rw [mxL]; omega) | (simp [maxLen]; done) | (simp [maxLen]; omega)) ?_)
        refine up_nextG (m + 22) hrc (by omega) ⟨?_, ?_, .sl k (c + 19) 4 0 (r + 1), ?_, .inr ⟨k, c + 19, rfl, by omega, ?_, ?_⟩⟩
        · try simp (maxSteps := 1000000) only [go_sem, Int.reduceEq, Int.reduceLT, Int.reduceLE, Int.reduceToNat, Nat.reduceLT, Nat.reduceEqDiff, Nat.reduceAdd, Nat.reduceLeDiff, Nat.reduceSub, Nat.reduceMul, ↓reduceIte, reduceCtorEq, w_app_nl]
          rw [show 6 + 12 * (r : Int) + 12 = 6 + 12 * ((r + 1 : Nat) : Int) by omega]
        · simp (maxSteps := 1000000) only [go_sem, Int.reduceEq, Int.reduceLT, Int.reduceLE, Int.reduceToNat, Nat.reduceLT, Nat.reduceEqDiff, Nat.reduceAdd, Nat.reduceLeDiff, Nat.reduceSub, Nat.reduceMul, ↓reduceIte, reduceCtorEq, w_app_nl, n3]
          rw [if_pos (by omega)]; exact ho0
        · simp (maxSteps := 1000000) only [go_sem, Int.reduceEq, Int.reduceLT, Int.reduceLE, Int.reduceToNat, Nat.reduceLT, Nat.reduceEqDiff, Nat.reduceAdd, Nat.reduceLeDiff, Nat.reduceSub, Nat.reduceMul, ↓reduceIte, reduceCtorEq, w_app_nl, n1]
          rw [if_pos (by omega)]
        · (try simp (maxSteps := 1000000) only [go_sem, Int.reduceEq, Int.reduceLT, Int.reduceLE, Int.reduceToNat, Nat.reduceLT, Nat.reduceEqDiff, Nat.reduceAdd, Nat.reduceLeDiff, Nat.reduceSub, Nat.reduceMul, ↓reduceIte, reduceCtorEq, w_app_nl]); omega
        · simp (maxSteps := 1000000) only [go_sem, Int.reduceEq, Int.reduceLT, Int.reduceLE, Int.reduceToNat, Nat.reduceLT, Nat.reduceEqDiff, Nat.reduceAdd, Nat.reduceLeDiff, Nat.reduceSub, Nat.reduceMul, ↓reduceIte, reduceCtorEq, w_app_nl, n2]
          rw [if_pos (by omega), rdsAt_succ, hrd, rds_snoc]
    · have hrc : r = cn := by omega
      subst hrc
      have hfr : frAt s = ⟨getS s 0 1, getS s 1 4, rdsAt s r⟩ := by unfold frAt; rw [hc5]
      have hXp : ∀ (σ : St), (∀ k, 1 < k → σ.ob k = ob k) → Pub σ X (.list 4 (rds (rdsAt s r))) := by
        intro σ hσ
        rcases hX with ⟨hr0, rfl⟩ | ⟨k, g, rfl, hk1, hkm, hk⟩
        · subst hr0; exact .nl 4
        · exact Pub.of_sl (by rw [hσ k hk1]; exact hk) (by rw [rds_length, rdsAt_length]) (rds_pur _) (rds_ok _)
      simp (maxSteps := 1000000) (disch := omega) only [go_sem, Int.reduceEq, Int.reduceLT, Int.reduceLE, Int.reduceToNat, Nat.reduceLT, Nat.reduceEqDiff, Nat.reduceAdd, Nat.reduceLeDiff, Nat.reduceSub, Nat.reduceMul, ↓reduceIte, reduceCtorEq, w_app_nl, wrap_id, ho0, ho1]
      refine call_lent (ok_telemetry_proper (frAt s) (by rw [hfr]; simp only [rdsAt_length]; omega)) (.cons (by rw [hfr]; show Pub _ (.agg [_, _, _]) (.agg [_, _, _]); exact Pub.agg3 (.pure rfl) (.pure rfl) (hXp _ fun _ _ => rfl)) .nil) rfl ?_
      try simp (maxSteps := 1000000) only [go_sem, Int.reduceEq, Int.reduceLT, Int.reduceLE, Int.reduceToNat, Nat.reduceLT, Nat.reduceEqDiff, Nat.reduceAdd, Nat.reduceLeDiff, Nat.reduceSub, Nat.reduceMul, ↓reduceIte, reduceCtorEq, w_app_nl]
      refine cond_split (fun hb => ?_) (fun hb => ?_) <;> simp (maxSteps := 1000000) (disch := omega) only [go_sem, Int.reduceEq, Int.reduceLT, Int.reduceLE, Int.reduceToNat, Nat.reduceLT, Nat.reduceEqDiff, Nat.reduceAdd, Nat.reduceLeDiff, Nat.reduceSub, Nat.reduceMul, ↓reduceIte, reduceCtorEq, w_app_nl, wrap_id, ho0, ho1]
      · exact zero 3 (by rw [hfin, if_neg (by simpa using hb)])
      · rw [hfin, if_pos (by simpa using hb), hfr]
        refine ⟨by rcases hX with ⟨_, rfl⟩ | ⟨k, g, rfl, _⟩ <;> rfl, ?_⟩
        show Pub _ (.tuple [.agg [_, _, _], _]) (.tuple [.agg [_, _, _], _])
        refine Pub.pair (Pub.agg3 (.pure rfl) (.pure rfl) (hXp _ fun k hk => ?_)) (.pure rfl)
        have : ¬ k = 0 := by omega
        simp (maxSteps := 1000000) only [go_sem, Int.reduceEq, Int.reduceLT, Int.reduceLE, Int.reduceToNat, Nat.reduceLT, Nat.reduceEqDiff, Nat.reduceAdd, Nat.reduceLeDiff, Nat.reduceSub, Nat.reduceMul, ↓reduceIte, reduceCtorEq, w_app_nl, this]
theorem ok_ref28_Decode (s : ByteArray) (hs : s.size ≤ 4611686018427387904) : PC prog n_ref28_Decode [.str s] (.tuple [frv (decR s).1, .int .i64 (decR s).2]) := by
  refine PC_of_body b_ref28_Decode (by simp) ?_
  simp only [c_ref28_Decode, go_sem, Int.reduceEq, Int.reduceLT, Int.reduceLE, Int.reduceToNat, Nat.reduceLT, Nat.reduceEqDiff, Nat.reduceAdd, Nat.reduceLeDiff, Nat.reduceSub, Nat.reduceMul, ↓reduceIte, reduceCtorEq, w_app_nl]
  have zero : ∀ {σ : St} (e : Int), decR s = (⟨0, 0, []⟩, e) → Pub σ (.tuple [.agg [.int .i64 0, .int .i64 0, .nil], .int .i64 e]) (.tuple [frv (decR s).1, .int .i64 (decR s).2]) := by
    intro σ e h
    rw [h]
    exact Pub.pair (Pub.agg3 (.pure rfl) (.pure rfl) (.nl 4)) (.pure rfl)
  refine gd_fd rfl (fun h1 => ?_) (fun h1 => ?_) <;> simp (maxSteps := 1000000) only [go_sem, Int.reduceEq, Int.reduceLT, Int.reduceLE, Int.reduceToNat, Nat.reduceLT, Nat.reduceEqDiff, Nat.reduceAdd, Nat.reduceLeDiff, Nat.reduceSub, Nat.reduceMul, ↓reduceIte, reduceCtorEq, w_app_nl]
  · exact zero 7 (by unfold decR; rw [if_pos (.inl (by omega))])
  have h10 : 10 ≤ s.size := by omega
  have hx := sb_getD_bd s 5
  refine ⟨_, sidxN s 5 (by omega), ?_⟩
  simp (maxSteps := 1000000) (disch := omega) only [go_sem, Int.reduceEq, Int.reduceLT, Int.reduceLE, Int.reduceToNat, Nat.reduceLT, Nat.reduceEqDiff, Nat.reduceAdd, Nat.reduceLeDiff, Nat.reduceSub, Nat.reduceMul, ↓reduceIte, reduceCtorEq, w_app_nl, wrap_id]
  refine cond_n (fun h2 => ?_) (fun h2 => ?_) <;> simp (maxSteps := 1000000) (disch := omega) only [go_sem, Int.reduceEq, Int.reduceLT, Int.reduceLE, Int.reduceToNat, Nat.reduceLT, Nat.reduceEqDiff, Nat.reduceAdd, Nat.reduceLeDiff, Nat.reduceSub, Nat.reduceMul, ↓reduceIte, reduceCtorEq, w_app_nl, wrap_id]
  · exact zero 7 (by unfold decR; rw [if_pos (.inr h2)])
  obtain ⟨cn, hcn⟩ : ∃ cn : Nat, (sb s).getD 5 0 = cn := ⟨_, (Int.toNat_of_nonneg hx.1).symm⟩
  have hsz : s.size = 10 + 12 * cn := by omega
  have hc5 : ((sb s).getD 5 0).toNat = cn := by omega
  refine dcall_pc (rget s (s.size - 4) 4 hs (by omega) (by omega) (by omega)) (by simp [go_sem]) (by simp [go_sem]) ?_
  simp (maxSteps := 1000000) (disch := omega) only [go_sem, Int.reduceEq, Int.reduceLT, Int.reduceLE, Int.reduceToNat, Nat.reduceLT, Nat.reduceEqDiff, Nat.reduceAdd, Nat.reduceLeDiff, Nat.reduceSub, Nat.reduceMul, ↓reduceIte, reduceCtorEq, w_app_nl, wrap_id]
  repeat (refine And.intro (by first | omega | (rw [mxL]; omega) | (simp [maxLen]; done) | (simp [maxLen]; omega)) ?_)
  refine dcall_pc (ok_ref28_Sum (s.extract 0 ((s.size : Int) - 4).toNat) (by simp; omega)) (by simp [go_sem]) (by simp [go_sem]) ?_
  have ht4 : ((s.size : Int) - 4).toNat = s.size - 4 := by omega
  simp (maxSteps := 1000000) (disch := omega) only [go_sem, Int.reduceEq, Int.reduceLT, Int.reduceLE, Int.reduceToNat, Nat.reduceLT, Nat.reduceEqDiff, Nat.reduceAdd, Nat.reduceLeDiff, Nat.reduceSub, Nat.reduceMul, ↓reduceIte, reduceCtorEq, w_app_nl, wrap_id, ht4]
  refine cond_n (fun h3 => ?_) (fun h3 => ?_) <;> simp (maxSteps := 1000000) (disch := omega) only [go_sem, Int.reduceEq, Int.reduceLT, Int.reduceLE, Int.reduceToNat, Nat.reduceLT, Nat.reduceEqDiff, Nat.reduceAdd, Nat.reduceLeDiff, Nat.reduceSub, Nat.reduceMul, ↓reduceIte, reduceCtorEq, w_app_nl, wrap_id]
  · exact zero 8 (by unfold decR; rw [if_neg (by omega), if_pos h3])
  refine call_pc (rget s 0 1 hs (by omega) (by omega) (by omega)) (by simp [go_sem]) ?_
  simp (maxSteps := 1000000) (disch := omega) only [go_sem, Int.reduceEq, Int.reduceLT, Int.reduceLE, Int.reduceToNat, Nat.reduceLT, Nat.reduceEqDiff, Nat.reduceAdd, Nat.reduceLeDiff, Nat.reduceSub, Nat.reduceMul, ↓reduceIte, reduceCtorEq, w_app_nl, wrap_id]
  refine call_pc (rget s 1 4 hs (by omega) (by omega) (by omega)) (by simp [go_sem]) ?_
  simp (maxSteps := 1000000) (disch := omega) only [go_sem, Int.reduceEq, Int.reduceLT, Int.reduceLE, Int.reduceToNat, Nat.reduceLT, Nat.reduceEqDiff, Nat.reduceAdd, Nat.reduceLeDiff, Nat.reduceSub, Nat.reduceMul, ↓reduceIte, reduceCtorEq, w_app_nl, wrap_id]
  have hfin : decR s = if frOk (frAt s) then (frAt s, 0) else (⟨0, 0, []⟩, 3) := by unfold decR; rw [if_neg (by omega), if_neg (by omega)]
  refine awp_upG [5, 6, 39, 40, 41, 42, 43, 44, 45, 46, 47, 48, 49, 50, 51, 52, 53, 54, 55, 56, 57, 58, 59, 60, 61, 62, 63, 64, 65, 66, 67, 68, 69] (by kernel_rfl) cn (fun r e σ => e 5 = .int .i64 r ∧ σ.ob 0 = some ⟨0, 3, 36, false, true, [.agg [.int .i64 0, .int .i64 0, .nil]]⟩ ∧
    ∃ X, σ.ob 1 = some ⟨1, 3, 36, false, true, [.agg [.int .i64 (getS s 0 1), .int .i64 (getS s 1 4), X]]⟩ ∧ (r = 0 ∧ X = .nil ∨ ∃ k g, X = .sl k g 4 0 r ∧ 1 < k ∧ k < σ.n ∧ σ.ob k = some ⟨g, 4, 34, false, true, rds (rdsAt s r)⟩)) ?_ ?_
  · refine ⟨(by first | ((try simp (maxSteps := 1000000) only [go_sem, Int.reduceEq, Int.reduceLT, Int.reduceLE, Int.reduceToNat, Nat.reduceLT, Nat.reduceEqDiff, Nat.reduceAdd, Nat.reduceLeDiff, Nat.reduceSub, Nat.reduceMul, ↓reduceIte, reduceCtorEq, w_app_nl]); done) | ((try simp (maxSteps := 1000000) only [go_sem, Int.reduceEq, Int.reduceLT, Int.reduceLE, Int.reduceToNat, Nat.reduceLT, Nat.reduceEqDiff, Nat.reduceAdd, Nat.reduceLeDiff, Nat.reduceSub, Nat.reduceMul, ↓reduceIte, reduceCtorEq, w_app_nl]); rfl) | ((try simp (maxSteps := 1000000) (disch := omega) only [go_sem, Int.reduceEq, Int.reduceLT, Int.reduceLE, Int.reduceToNat, Nat.reduceLT, Nat.reduceEqDiff, Nat.reduceAdd, Nat.reduceLeDiff, Nat.reduceSub, Nat.reduceMul, ↓reduceIte, reduceCtorEq, w_app_nl, wrap_id, w_ite_ne, w_ite_lt]); rfl) | (simp (maxSteps := 1000000) (disch := omega) only [go_sem, Int.reduceEq, Int.reduceLT, Int.reduceLE, Int.reduceToNat, Nat.reduceLT, Nat.reduceEqDiff, Nat.reduceAdd, Nat.reduceLeDiff, Nat.reduceSub, Nat.reduceMul, ↓reduceIte, reduceCtorEq, w_app_nl, wrap_id, w_ite_ne, w_ite_lt]; done)), by first | rfl | simp (maxSteps := 1000000) only [go_sem, Int.reduceEq, Int.reduceLT, Int.reduceLE, Int.reduceToNat, Nat.reduceLT, Nat.reduceEqDiff, Nat.reduceAdd, Nat.reduceLeDiff, Nat.reduceSub, Nat.reduceMul, ↓reduceIte, reduceCtorEq, w_app_nl], .nil, by first | rfl | simp (maxSteps := 1000000) only [go_sem, Int.reduceEq, Int.reduceLT, Int.reduceLE, Int.reduceToNat, Nat.reduceLT, Nat.reduceEqDiff, Nat.reduceAdd, Nat.reduceLeDiff, Nat.reduceSub, Nat.reduceMul, ↓reduceIte, reduceCtorEq, w_app_nl], .inl ⟨rfl, rfl⟩⟩
  · rintro r fe ob m c hr hm ⟨h5, ho0, X, ho1, hX⟩
    simp (maxSteps := 1000000) only [go_sem, Int.reduceEq, Int.reduceLT, Int.reduceLE, Int.reduceToNat, Nat.reduceLT, Nat.reduceEqDiff, Nat.reduceAdd, Nat.reduceLeDiff, Nat.reduceSub, Nat.reduceMul, ↓reduceIte, reduceCtorEq, w_app_nl] at h5 ho0 ho1 hX
    simp (maxSteps := 1000000) (disch := omega) only [go_sem, Int.reduceEq, Int.reduceLT, Int.reduceLE, Int.reduceToNat, Nat.reduceLT, Nat.reduceEqDiff, Nat.reduceAdd, Nat.reduceLeDiff, Nat.reduceSub, Nat.reduceMul, ↓reduceIte, reduceCtorEq, w_app_nl, wrap_id, h5]
    refine ⟨_, sidxN s 5 (by omega), ?_⟩
    simp (maxSteps := 1000000) (disch := omega) only [go_sem, Int.reduceEq, Int.reduceLT, Int.reduceLE, Int.reduceToNat, Nat.reduceLT, Nat.reduceEqDiff, Nat.reduceAdd, Nat.reduceLeDiff, Nat.reduceSub, Nat.reduceMul, ↓reduceIte, reduceCtorEq, w_app_nl, wrap_id, h5]
    refine cond_d (fun hlt => ?_) (fun hge => ?_)
    · have hrc : r < cn := by omega
      simp (maxSteps := 1000000) (disch := omega) only [go_sem, Int.reduceEq, Int.reduceLT, Int.reduceLE, Int.reduceToNat, Nat.reduceLT, Nat.reduceEqDiff, Nat.reduceAdd, Nat.reduceLeDiff, Nat.reduceSub, Nat.reduceMul, ↓reduceIte, reduceCtorEq, w_app_nl, wrap_id, h5, ho0, ho1]
      have hm2 : 2 ≤ m := hm
      clear hm
      have e2 : (6 + 12 * (r : Int)).toNat = 6 + 12 * r := by omega
      have e3 : (6 + 12 * (r : Int) + 2).toNat = 6 + 12 * r + 2 := by omega
      have e4 : (6 + 12 * (r : Int) + 6).toNat = 6 + 12 * r + 6 := by omega
      have e5 : (6 + 12 * (r : Int) + 11).toNat = 6 + 12 * r + 11 := by omega
      refine dcall_pc (rget s (6 + 12 * r) 2 hs (by omega) (by omega) (by omega)) (by simp [go_sem]) (by simp [go_sem]) ?_
      simp (maxSteps := 1000000) (disch := omega) only [go_sem, Int.reduceEq, Int.reduceLT, Int.reduceLE, Int.reduceToNat, Nat.reduceLT, Nat.reduceEqDiff, Nat.reduceAdd, Nat.reduceLeDiff, Nat.reduceSub, Nat.reduceMul, ↓reduceIte, reduceCtorEq, w_app_nl, wrap_id, h5]
      refine dcall_pc (rget s (6 + 12 * r + 2) 4 hs (by omega) (by omega) (by omega)) (by simp [go_sem]) (by simp [go_sem]) ?_
      simp (maxSteps := 1000000) (disch := omega) only [go_sem, Int.reduceEq, Int.reduceLT, Int.reduceLE, Int.reduceToNat, Nat.reduceLT, Nat.reduceEqDiff, Nat.reduceAdd, Nat.reduceLeDiff, Nat.reduceSub, Nat.reduceMul, ↓reduceIte, reduceCtorEq, w_app_nl, wrap_id, h5]
      refine dcall_pc (rget s (6 + 12 * r + 6) 5 hs (by omega) (by omega) (by omega)) (by simp [go_sem]) (by simp [go_sem]) ?_
      simp (maxSteps := 1000000) (disch := omega) only [go_sem, Int.reduceEq, Int.reduceLT, Int.reduceLE, Int.reduceToNat, Nat.reduceLT, Nat.reduceEqDiff, Nat.reduceAdd, Nat.reduceLeDiff, Nat.reduceSub, Nat.reduceMul, ↓reduceIte, reduceCtorEq, w_app_nl, wrap_id, h5]
      refine dcall_pc (rget s (6 + 12 * r + 11) 1 hs (by omega) (by omega) (by omega)) (by simp [go_sem]) (by simp [go_sem]) ?_
      simp (maxSteps := 1000000) (disch := omega) only [go_sem, Int.reduceEq, Int.reduceLT, Int.reduceLE, Int.reduceToNat, Nat.reduceLT, Nat.reduceEqDiff, Nat.reduceAdd, Nat.reduceLeDiff, Nat.reduceSub, Nat.reduceMul, ↓reduceIte, reduceCtorEq, w_app_nl, wrap_id, h5, e2, e3, e4, e5]
      have hrd : AV.agg [.int .i64 (getS s (6 + 12 * r) 2), .int .i64 (getS s (6 + 12 * r + 2) 4), .int .i64 (getS s (6 + 12 * r + 6) 5), .int .i64 (getS s (6 + 12 * r + 11) 1)] = rdv (rdAt s (6 + 12 * r)) := rfl
      rcases hX with ⟨hr0, rfl⟩ | ⟨k, g, rfl, hk1, hkm, hk⟩
      · subst hr0
        simp (maxSteps := 1000000) (disch := omega) only [go_sem, Int.reduceEq, Int.reduceLT, Int.reduceLE, Int.reduceToNat, Nat.reduceLT, Nat.reduceEqDiff, Nat.reduceAdd, Nat.reduceLeDiff, Nat.reduceSub, Nat.reduceMul, ↓reduceIte, reduceCtorEq, w_app_nl, wrap_id, h5, ho0, ho1]
        repeat (refine And.intro (by first | omega | (rw [mxL]; omega) | (simp [maxLen]; done) | (simp [maxLen]; omega)) ?_)
        have n1 : ¬ m + 19 = 1 := by omega
        have n2 : ¬ (0 : Nat) = m + 19 := by omega
        refine up_nextG (m + 22) hrc (by omega) ⟨?_, ?_, .sl (m + 19) (c + 19) 4 0 1, ?_, .inr ⟨m + 19, c + 19, rfl, by omega, ?_, ?_⟩⟩
        · try simp (maxSteps := 1000000) only [go_sem, Int.reduceEq, Int.reduceLT, Int.reduceLE, Int.reduceToNat, Nat.reduceLT, Nat.reduceEqDiff, Nat.reduceAdd, Nat.reduceLeDiff, Nat.reduceSub, Nat.reduceMul, ↓reduceIte, reduceCtorEq, w_app_nl]
          try rfl
        · simp (maxSteps := 1000000) only [go_sem, Int.reduceEq, Int.reduceLT, Int.reduceLE, Int.reduceToNat, Nat.reduceLT, Nat.reduceEqDiff, Nat.reduceAdd, Nat.reduceLeDiff, Nat.reduceSub, Nat.reduceMul, ↓reduceIte, reduceCtorEq, w_app_nl, n2]
          rw [if_pos (by omega)]; exact ho0
        · try simp (maxSteps := 1000000) only [go_sem, Int.reduceEq, Int.reduceLT, Int.reduceLE, Int.reduceToNat, Nat.reduceLT, Nat.reduceEqDiff, Nat.reduceAdd, Nat.reduceLeDiff, Nat.reduceSub, Nat.reduceMul, ↓reduceIte, reduceCtorEq, w_app_nl]
          rw [if_pos (by omega)]
        · (try simp (maxSteps := 1000000) only [go_sem, Int.reduceEq, Int.reduceLT, Int.reduceLE, Int.reduceToNat, Nat.reduceLT, Nat.reduceEqDiff, Nat.reduceAdd, Nat.reduceLeDiff, Nat.reduceSub, Nat.reduceMul, ↓reduceIte, reduceCtorEq, w_app_nl]); omega
        · simp (maxSteps := 1000000) only [go_sem, Int.reduceEq, Int.reduceLT, Int.reduceLE, Int.reduceToNat, Nat.reduceLT, Nat.reduceEqDiff, Nat.reduceAdd, Nat.reduceLeDiff, Nat.reduceSub, Nat.reduceMul, ↓reduceIte, reduceCtorEq, w_app_nl, n1]
          rw [if_pos (by omega), rdsAt_succ]; rfl
      · have n1 : ¬ 1 = k := by omega
        have n2 : ¬ k = 1 := by omega
        have n3 : ¬ 0 = k := by omega
        simp (maxSteps := 1000000) (disch := omega) only [go_sem, Int.reduceEq, Int.reduceLT, Int.reduceLE, Int.reduceToNat, Nat.reduceLT, Nat.reduceEqDiff, Nat.reduceAdd, Nat.reduceLeDiff, Nat.reduceSub, Nat.reduceMul, ↓reduceIte, reduceCtorEq, w_app_nl, wrap_id, h5, ho0, ho1, hk, rds_length, rdsAt_length, n1, n2, n3]
        repeat (refine And.intro (by first | omega | (rw [mxL]; omega) | (simp [maxLen]; done) | (simp [maxLen]; omega)) ?_)
        refine up_nextG (m + 22) hrc (by omega) ⟨?_, ?_, .sl k (c + 19) 4 0 (r + 1), ?_, .inr ⟨k, c + 19, rfl, by omega, ?_, ?_⟩⟩
        · try simp (maxSteps := 1000000) only [go_sem, Int.reduceEq, Int.reduceLT, Int.reduceLE, Int.reduceToNat, Nat.reduceLT, Nat.reduceEqDiff, Nat.reduceAdd, Nat.reduceLeDiff, Nat.reduceSub, Nat.reduceMul, ↓reduceIte, reduceCtorEq, w_app_nl]
          try rfl
        · simp (maxSteps := 1000000) only [go_sem, Int.reduceEq, Int.reduceLT, Int.reduceLE, Int.reduceToNat, Nat.reduceLT, Nat.reduceEqDiff, Nat.reduceAdd, Nat.reduceLeDiff, Nat.reduceSub, Nat.reduceMul, ↓reduceIte, reduceCtorEq, w_app_nl, n3]
          rw [if_pos (by omega)]; exact ho0
        · simp (maxSteps := 1000000) only [go_sem, Int.reduceEq, Int.reduceLT, Int.reduceLE, Int.reduceToNat, Nat.reduceLT, Nat.reduceEqDiff, Nat.reduceAdd, Nat.reduceLeDiff, Nat.reduceSub, Nat.reduceMul, ↓reduceIte, reduceCtorEq, w_app_nl, n1]
          rw [if_pos (by omega)]
        · (try simp (maxSteps := 1000000) only [go_sem, Int.reduceEq, Int.reduceLT, Int.reduceLE, Int.reduceToNat, Nat.reduceLT, Nat.reduceEqDiff, Nat.reduceAdd, Nat.reduceLeDiff, Nat.reduceSub, Nat.reduceMul, ↓reduceIte, reduceCtorEq, w_app_nl]); omega
        · simp (maxSteps := 1000000) only [go_sem, Int.reduceEq, Int.reduceLT, Int.reduceLE, Int.reduceToNat, Nat.reduceLT, Nat.reduceEqDiff, Nat.reduceAdd, Nat.reduceLeDiff, Nat.reduceSub, Nat.reduceMul, ↓reduceIte, reduceCtorEq, w_app_nl, n2]
          rw [if_pos (by omega), rdsAt_succ, hrd, rds_snoc]
    · have hrc : r = cn := by omega
      subst hrc
      have hfr : frAt s = ⟨getS s 0 1, getS s 1 4, rdsAt s r⟩ := by unfold frAt; rw [hc5]
      have hXp : ∀ (σ : St), (∀ k, 1 < k → σ.ob k = ob k) → Pub σ X (.list 4 (rds (rdsAt s r))) := by
        intro σ hσ
        rcases hX with ⟨hr0, rfl⟩ | ⟨k, g, rfl, hk1, hkm, hk⟩
        · subst hr0; exact .nl 4
        · exact Pub.of_sl (by rw [hσ k hk1]; exact hk) (by rw [rds_length, rdsAt_length]) (rds_pur _) (rds_ok _)
      simp (maxSteps := 1000000) (disch := omega) only [go_sem, Int.reduceEq, Int.reduceLT, Int.reduceLE, Int.reduceToNat, Nat.reduceLT, Nat.reduceEqDiff, Nat.reduceAdd, Nat.reduceLeDiff, Nat.reduceSub, Nat.reduceMul, ↓reduceIte, reduceCtorEq, w_app_nl, wrap_id, ho0, ho1]
      refine call_lent (ok_ref28_Valid (frAt s) (by rw [hfr]; simp only [rdsAt_length]; omega)) (.cons (by rw [hfr]; show Pub _ (.agg [_, _, _]) (.agg [_, _, _]); exact Pub.agg3 (.pure rfl) (.pure rfl) (hXp _ fun _ _ => rfl)) .nil) rfl ?_
      try simp (maxSteps := 1000000) only [go_sem, Int.reduceEq, Int.reduceLT, Int.reduceLE, Int.reduceToNat, Nat.reduceLT, Nat.reduceEqDiff, Nat.reduceAdd, Nat.reduceLeDiff, Nat.reduceSub, Nat.reduceMul, ↓reduceIte, reduceCtorEq, w_app_nl]
      refine cond_split (fun hb => ?_) (fun hb => ?_) <;> simp (maxSteps := 1000000) (disch := omega) only [go_sem, Int.reduceEq, Int.reduceLT, Int.reduceLE, Int.reduceToNat, Nat.reduceLT, Nat.reduceEqDiff, Nat.reduceAdd, Nat.reduceLeDiff, Nat.reduceSub, Nat.reduceMul, ↓reduceIte, reduceCtorEq, w_app_nl, wrap_id, ho0, ho1]
      · exact zero 3 (by rw [hfin, if_neg (by simpa using hb)])
      · rw [hfin, if_pos (by simpa using hb), hfr]
        refine ⟨by rcases hX with ⟨_, rfl⟩ | ⟨k, g, rfl, _⟩ <;> rfl, ?_⟩
        show Pub _ (.tuple [.agg [_, _, _], _]) (.tuple [.agg [_, _, _], _])
        refine Pub.pair (Pub.agg3 (.pure rfl) (.pure rfl) (hXp _ fun k hk => ?_)) (.pure rfl)
        have : ¬ k = 0 := by omega
        simp (maxSteps := 1000000) only [go_sem, Int.reduceEq, Int.reduceLT, Int.reduceLE, Int.reduceToNat, Nat.reduceLT, Nat.reduceEqDiff, Nat.reduceAdd, Nat.reduceLeDiff, Nat.reduceSub, Nat.reduceMul, ↓reduceIte, reduceCtorEq, w_app_nl, this]
/-- a number is drawn in a region that draws its order -/
theorem dcall_deck {af : List Nat} {R V : List (Nat × Nat)} {p n c : Nat} {kk : List (Nat × Nat) → List (Nat × Nat) → AV → St → Prop} {ob : Nat → Option AObj} {id g : Nat} {ty : TypeId} {ap : Bool} {l : List Int} {at' : Nat} {k : Int}
    (hob : ob id = some ⟨g, 2, ty, false, ap, [deckV l at']⟩) (hk : k ≤ 4611686018427387904) (hl : l.length ≤ 9223372036854775807) (hV : noMeet af V [id]) (hR : noMeet af R [id])
    (h : kk (R ++ [(p, id)]) (V ++ [(p, id)]) (.int .i64 (deckR l at' k).1) ⟨upd ob id (some ⟨g, 2, ty, false, ap, [deckV l (deckR l at' k).2]⟩), n, c⟩) :
    dcall (HC prog) n_mk_Deck_Next [.ptr id g 2 0 0, .int .i64 k] af R V p n c kk ob := by
  refine ⟨_, [id], some (id, ⟨g, 2, ty, false, ap, [deckV l (deckR l at' k).2]⟩), ⟨rfl, ⟨_, hob, rfl, rfl⟩, ?_, by simp, ?_⟩, ?_, hR, h⟩
  · intro x hx
    simp only [List.mem_singleton] at hx
    subst hx; rfl
  · intro ob' n' c' hi
    exact ok_mk_Deck_Next ⟨ob', n', c'⟩ id g ty ap l at' k (by simp only; rw [hi id (by simp)]; exact hob) hk hl
  · intro x hx
    rcases hV x hx with h | h
    · exact .inl h
    · exact .inr fun i hi => by
        simp only [wrO, List.cons_append, List.nil_append, List.mem_cons, List.not_mem_nil, or_false, or_self] at hi
        exact h i (by simp [hi])
def FrameG (σ : St) (id g : Nat) (l : List Int) (r : AV) (σ' : St) : Prop := ∃ F X at2, r = .agg [.int .i64 F.s, .int .i64 F.n, X] ∧ frOk F = true ∧ σ'.ob id = some ⟨g, 2, ty_Deck, false, true, [deckV l at2]⟩ ∧ (∀ i, i < σ.n → i ≠ id → σ'.ob i = σ.ob i) ∧ (X = .nil ∧ F.l = [] ∨ ∃ k g2, X = .sl k g2 4 0 F.l.length ∧ σ.n ≤ k ∧ σ'.ob k = some ⟨g2, 4, 34, false, true, rds F.l⟩)
theorem hc_flow_Frame0 (σ : St) (id g : Nat) (l : List Int) (at' : Nat) (hl : l.length ≤ 9223372036854775807) (hid : id < σ.n) (hob : σ.ob id = some ⟨g, 2, ty_Deck, false, true, [deckV l at']⟩) :
    HC prog n_flow_Frame [.ptr id g 2 0 0] σ (FrameG σ id g l) := by
  refine HC_of_body b_flow_Frame (by simp) ?_
  obtain ⟨ob0, n0, c0⟩ := σ
  simp only at hid hob
  have hne : ¬ id = n0 := by omega
  have hne1 : ¬ id = n0 + 1 := by omega
  have hne2 : ¬ n0 = n0 + 1 := by omega
  have hne3 : ¬ n0 + 1 = n0 := by omega
  have hne4 : ¬ n0 = id := by omega
  have hne5 : ¬ n0 + 1 = id := by omega
  simp only [c_flow_Frame, go_sem, Int.reduceEq, Int.reduceLT, Int.reduceLE, Int.reduceToNat, Nat.reduceLT, Nat.reduceEqDiff, Nat.reduceAdd, Nat.reduceLeDiff, Nat.reduceSub, Nat.reduceMul, ↓reduceIte, reduceCtorEq, w_app_nl]
  refine call_hc (ok_mk_Deck_Next _ id g ty_Deck true l at' 3 (by simp (maxSteps := 1000000) only [go_sem, Int.reduceEq, Int.reduceLT, Int.reduceLE, Int.reduceToNat, Nat.reduceLT, Nat.reduceEqDiff, Nat.reduceAdd, Nat.reduceLeDiff, Nat.reduceSub, Nat.reduceMul, ↓reduceIte, reduceCtorEq, w_app_nl, hne]; exact hob) (by omega) hl) ?_
  have hx1 := deckR_bd l at' 3
  generalize deckR l at' 3 = dr at *
  obtain ⟨a, at2⟩ := dr
  simp only at hx1
  simp (maxSteps := 1000000) (disch := omega) only [go_sem, Int.reduceEq, Int.reduceLT, Int.reduceLE, Int.reduceToNat, Nat.reduceLT, Nat.reduceEqDiff, Nat.reduceAdd, Nat.reduceLeDiff, Nat.reduceSub, Nat.reduceMul, ↓reduceIte, reduceCtorEq, w_app_nl, wrap_id]
  refine call_hc (ok_mk_Deck_Next _ id g ty_Deck true l at2 9 (by first | rfl | simp (maxSteps := 1000000) only [go_sem, Int.reduceEq, Int.reduceLT, Int.reduceLE, Int.reduceToNat, Nat.reduceLT, Nat.reduceEqDiff, Nat.reduceAdd, Nat.reduceLeDiff, Nat.reduceSub, Nat.reduceMul, ↓reduceIte, reduceCtorEq, w_app_nl]) (by omega) hl) ?_
  have hx2 := deckR_bd l at2 9
  generalize deckR l at2 9 = dr at *
  obtain ⟨b, at3⟩ := dr
  simp only at hx2
  simp (maxSteps := 1000000) (disch := omega) only [go_sem, Int.reduceEq, Int.reduceLT, Int.reduceLE, Int.reduceToNat, Nat.reduceLT, Nat.reduceEqDiff, Nat.reduceAdd, Nat.reduceLeDiff, Nat.reduceSub, Nat.reduceMul, ↓reduceIte, reduceCtorEq, w_app_nl, wrap_id, hne, hne1, hne2, hne3, hne4, hne5]
  refine call_hc (ok_mk_Deck_Next _ id g ty_Deck true l at3 5 (by simp (maxSteps := 1000000) only [go_sem, Int.reduceEq, Int.reduceLT, Int.reduceLE, Int.reduceToNat, Nat.reduceLT, Nat.reduceEqDiff, Nat.reduceAdd, Nat.reduceLeDiff, Nat.reduceSub, Nat.reduceMul, ↓reduceIte, reduceCtorEq, w_app_nl, hne1]) (by omega) hl) ?_
  have hx3 := deckR_bd l at3 5
  generalize deckR l at3 5 = dr at *
  obtain ⟨k, at4⟩ := dr
  simp only at hx3
  simp (maxSteps := 1000000) (disch := omega) only [go_sem, Int.reduceEq, Int.reduceLT, Int.reduceLE, Int.reduceToNat, Nat.reduceLT, Nat.reduceEqDiff, Nat.reduceAdd, Nat.reduceLeDiff, Nat.reduceSub, Nat.reduceMul, ↓reduceIte, reduceCtorEq, w_app_nl, wrap_id]
  refine awp_upG [4, 13, 14, 15, 16, 17, 18, 19, 20, 21, 22, 23, 24, 25, 26, 27, 28, 29, 30] (by kernel_rfl) k.toNat (fun r e σ => e 4 = .int .i64 (k - r) ∧ σ.ob n0 = some ⟨c0, 3, 36, false, true, [.agg [.int .i64 0, .int .i64 0, .nil]]⟩ ∧
    ∃ X L at5, σ.ob (n0 + 1) = some ⟨c0 + 1, 3, 36, false, true, [.agg [.int .i64 a, .int .i64 (1 + b), X]]⟩ ∧ σ.ob id = some ⟨g, 2, ty_Deck, false, true, [deckV l at5]⟩ ∧ (∀ i, i < n0 → i ≠ id → σ.ob i = ob0 i) ∧
    L.length = r ∧ (∀ x ∈ L, rdOk x = true) ∧ (X = .nil ∧ L = [] ∨ ∃ q g2, X = .sl q g2 4 0 r ∧ n0 + 1 < q ∧ q < σ.n ∧ σ.ob q = some ⟨g2, 4, 34, false, true, rds L⟩)) ?_ ?_
  · refine ⟨by simp [go_sem], ?_, .nil, [], at4, ?_, ?_, ?_, rfl, by simp, .inl ⟨rfl, rfl⟩⟩
    · simp (maxSteps := 1000000) only [go_sem, Int.reduceEq, Int.reduceLT, Int.reduceLE, Int.reduceToNat, Nat.reduceLT, Nat.reduceEqDiff, Nat.reduceAdd, Nat.reduceLeDiff, Nat.reduceSub, Nat.reduceMul, ↓reduceIte, reduceCtorEq, w_app_nl, hne4, hne2]
    · simp (maxSteps := 1000000) only [go_sem, Int.reduceEq, Int.reduceLT, Int.reduceLE, Int.reduceToNat, Nat.reduceLT, Nat.reduceEqDiff, Nat.reduceAdd, Nat.reduceLeDiff, Nat.reduceSub, Nat.reduceMul, ↓reduceIte, reduceCtorEq, w_app_nl, hne5]
    · try simp (maxSteps := 1000000) only [go_sem, Int.reduceEq, Int.reduceLT, Int.reduceLE, Int.reduceToNat, Nat.reduceLT, Nat.reduceEqDiff, Nat.reduceAdd, Nat.reduceLeDiff, Nat.reduceSub, Nat.reduceMul, ↓reduceIte, reduceCtorEq, w_app_nl]
    · intro i hi hi2
      have h1 : ¬ i = n0 := by omega
      have h2 : ¬ i = n0 + 1 := by omega
      simp (maxSteps := 1000000) only [go_sem, Int.reduceEq, Int.reduceLT, Int.reduceLE, Int.reduceToNat, Nat.reduceLT, Nat.reduceEqDiff, Nat.reduceAdd, Nat.reduceLeDiff, Nat.reduceSub, Nat.reduceMul, ↓reduceIte, reduceCtorEq, w_app_nl, hi2, h1, h2]
  · rintro r fe ob m c hr hm ⟨h4, hp0, X, L, at5, hp1, hpd, hlt0, hL, hLok, hX⟩
    have hm2 : n0 + 2 ≤ m := hm
    clear hm
    simp (maxSteps := 1000000) only [go_sem, Int.reduceEq, Int.reduceLT, Int.reduceLE, Int.reduceToNat, Nat.reduceLT, Nat.reduceEqDiff, Nat.reduceAdd, Nat.reduceLeDiff, Nat.reduceSub, Nat.reduceMul, ↓reduceIte, reduceCtorEq, w_app_nl] at h4 hp0 hp1 hpd hlt0 hX
    simp (maxSteps := 1000000) only [go_sem, Int.reduceEq, Int.reduceLT, Int.reduceLE, Int.reduceToNat, Nat.reduceLT, Nat.reduceEqDiff, Nat.reduceAdd, Nat.reduceLeDiff, Nat.reduceSub, Nat.reduceMul, ↓reduceIte, reduceCtorEq, w_app_nl, h4]
    refine cond_d (fun hlt => ?_) (fun hge => ?_)
    · have hrk : r < k.toNat := by omega
      simp (maxSteps := 1000000) (disch := omega) only [go_sem, Int.reduceEq, Int.reduceLT, Int.reduceLE, Int.reduceToNat, Nat.reduceLT, Nat.reduceEqDiff, Nat.reduceAdd, Nat.reduceLeDiff, Nat.reduceSub, Nat.reduceMul, ↓reduceIte, reduceCtorEq, w_app_nl, wrap_id, h4, hp0, hp1, hpd]
      repeat (refine And.intro (by first | omega | (rw [mxL]; omega) | (simp [maxLen]; done) | (simp [maxLen]; omega)) ?_)
      refine dcall_deck (k := 300) hpd (by omega) hl (by simp [noMeet]) (by simp [noMeet]; omega) ?_
      have hy1 := deckR_bd l at5 300
      generalize deckR l at5 300 = dr at *
      obtain ⟨x1, b1⟩ := dr
      simp only at hy1
      simp (maxSteps := 1000000) (disch := omega) only [go_sem, Int.reduceEq, Int.reduceLT, Int.reduceLE, Int.reduceToNat, Nat.reduceLT, Nat.reduceEqDiff, Nat.reduceAdd, Nat.reduceLeDiff, Nat.reduceSub, Nat.reduceMul, ↓reduceIte, reduceCtorEq, w_app_nl, wrap_id, h4]
      repeat (refine And.intro (by first | omega | (rw [mxL]; omega) | (simp [maxLen]; done) | (simp [maxLen]; omega)) ?_)
      refine dcall_deck (k := 40) (at' := b1) (ty := ty_Deck) (ap := true) (by first | rfl | simp (maxSteps := 1000000) only [go_sem, Int.reduceEq, Int.reduceLT, Int.reduceLE, Int.reduceToNat, Nat.reduceLT, Nat.reduceEqDiff, Nat.reduceAdd, Nat.reduceLeDiff, Nat.reduceSub, Nat.reduceMul, ↓reduceIte, reduceCtorEq, w_app_nl]) (by omega) hl (by simp [noMeet]) (by simp [noMeet]; omega) ?_
      have hy2 := deckR_bd l b1 40
      generalize deckR l b1 40 = dr at *
      obtain ⟨x2, b2⟩ := dr
      simp only at hy2
      simp (maxSteps := 1000000) (disch := omega) only [go_sem, Int.reduceEq, Int.reduceLT, Int.reduceLE, Int.reduceToNat, Nat.reduceLT, Nat.reduceEqDiff, Nat.reduceAdd, Nat.reduceLeDiff, Nat.reduceSub, Nat.reduceMul, ↓reduceIte, reduceCtorEq, w_app_nl, wrap_id, h4]
      repeat (refine And.intro (by first | omega | (rw [mxL]; omega) | (simp [maxLen]; done) | (simp [maxLen]; omega)) ?_)
      refine dcall_deck (k := 1000) (at' := b2) (ty := ty_Deck) (ap := true) (by first | rfl | simp (maxSteps := 1000000) only [go_sem, Int.reduceEq, Int.reduceLT, Int.reduceLE, Int.reduceToNat, Nat.reduceLT, Nat.reduceEqDiff, Nat.reduceAdd, Nat.reduceLeDiff, Nat.reduceSub, Nat.reduceMul, ↓reduceIte, reduceCtorEq, w_app_nl]) (by omega) hl (by simp [noMeet]) (by simp [noMeet]; omega) ?_
      have hy3 := deckR_bd l b2 1000
      generalize deckR l b2 1000 = dr at *
      obtain ⟨x3, b3⟩ := dr
      simp only at hy3
      simp (maxSteps := 1000000) (disch := omega) only [go_sem, Int.reduceEq, Int.reduceLT, Int.reduceLE, Int.reduceToNat, Nat.reduceLT, Nat.reduceEqDiff, Nat.reduceAdd, Nat.reduceLeDiff, Nat.reduceSub, Nat.reduceMul, ↓reduceIte, reduceCtorEq, w_app_nl, wrap_id, h4]
      repeat (refine And.intro (by first | omega | (rw [mxL]; omega) | (simp [maxLen]; done) | (simp [maxLen]; omega)) ?_)
      refine dcall_deck (k := 3) (at' := b3) (ty := ty_Deck) (ap := true) (by first | rfl | simp (maxSteps := 1000000) only [go_sem, Int.reduceEq, Int.reduceLT, Int.reduceLE, Int.reduceToNat, Nat.reduceLT, Nat.reduceEqDiff, Nat.reduceAdd, Nat.reduceLeDiff, Nat.reduceSub, Nat.reduceMul, ↓reduceIte, reduceCtorEq, w_app_nl]) (by omega) hl (by simp [noMeet]) (by simp [noMeet]; omega) ?_
      have hy4 := deckR_bd l b3 3
      generalize deckR l b3 3 = dr at *
      obtain ⟨x4, b4⟩ := dr
      simp only at hy4
      simp (maxSteps := 1000000) (disch := omega) only [go_sem, Int.reduceEq, Int.reduceLT, Int.reduceLE, Int.reduceToNat, Nat.reduceLT, Nat.reduceEqDiff, Nat.reduceAdd, Nat.reduceLeDiff, Nat.reduceSub, Nat.reduceMul, ↓reduceIte, reduceCtorEq, w_app_nl, wrap_id, h4]
      repeat (refine And.intro (by first | omega | (rw [mxL]; omega) | (simp [maxLen]; done) | (simp [maxLen]; omega)) ?_)
      have hrok : rdOk ⟨x1, x2, x3, x4⟩ = true := by simp [rdOk, inB]; omega
      have hL2 : ∀ x ∈ L ++ [(⟨x1, x2, x3, x4⟩ : Rd)], rdOk x = true := by
        intro x hx
        rcases List.mem_append.1 hx with hx | hx
        · exact hLok x hx
        · simp at hx; subst hx; exact hrok
      have hrd : AV.agg [.int .i64 x1, .int .i64 x2, .int .i64 x3, .int .i64 x4] = rdv ⟨x1, x2, x3, x4⟩ := rfl
      rcases hX with ⟨rfl, rfl⟩ | ⟨q, g2, rfl, hq1, hqm, hq⟩
      · have hr0 : r = 0 := by simpa using hL.symm
        subst hr0
        have n1 : ¬ n0 + 1 = m + 12 := by omega
        have n2 : ¬ n0 = m + 12 := by omega
        have n3 : ¬ id = m + 12 := by omega
        have n4 : ¬ m + 12 = n0 + 1 := by omega
        have n5 : ¬ m + 12 = id := by omega
        simp (maxSteps := 1000000) (disch := omega) only [go_sem, Int.reduceEq, Int.reduceLT, Int.reduceLE, Int.reduceToNat, Nat.reduceLT, Nat.reduceEqDiff, Nat.reduceAdd, Nat.reduceLeDiff, Nat.reduceSub, Nat.reduceMul, ↓reduceIte, reduceCtorEq, w_app_nl, wrap_id, h4, hp0, hp1, hne, hne1, hne2, hne3, hne4, hne5, n1, n2, n3, n4, n5]
        repeat (refine And.intro (by first | omega | (rw [mxL]; omega) | (simp [maxLen]; done) | (simp [maxLen]; omega)) ?_)
        refine up_nextG (m + 15) hrk (by omega) ⟨?_, ?_, .sl (m + 12) (c + 12) 4 0 (0 + 1), ([] : List Rd) ++ [⟨x1, x2, x3, x4⟩], b4, ?_, ?_, ?_, by simp [hL], hL2, .inr ⟨m + 12, c + 12, rfl, by omega, ?_, ?_⟩⟩
        · try simp (maxSteps := 1000000) only [go_sem, Int.reduceEq, Int.reduceLT, Int.reduceLE, Int.reduceToNat, Nat.reduceLT, Nat.reduceEqDiff, Nat.reduceAdd, Nat.reduceLeDiff, Nat.reduceSub, Nat.reduceMul, ↓reduceIte, reduceCtorEq, w_app_nl]
          rw [Int.sub_zero]
        · simp (maxSteps := 1000000) only [go_sem, Int.reduceEq, Int.reduceLT, Int.reduceLE, Int.reduceToNat, Nat.reduceLT, Nat.reduceEqDiff, Nat.reduceAdd, Nat.reduceLeDiff, Nat.reduceSub, Nat.reduceMul, ↓reduceIte, reduceCtorEq, w_app_nl, n2, hne2, hne4]
          rw [if_pos (by omega)]; exact hp0
        · try simp (maxSteps := 1000000) only [go_sem, Int.reduceEq, Int.reduceLT, Int.reduceLE, Int.reduceToNat, Nat.reduceLT, Nat.reduceEqDiff, Nat.reduceAdd, Nat.reduceLeDiff, Nat.reduceSub, Nat.reduceMul, ↓reduceIte, reduceCtorEq, w_app_nl]
          rw [if_pos (by omega)]
        · simp (maxSteps := 1000000) only [go_sem, Int.reduceEq, Int.reduceLT, Int.reduceLE, Int.reduceToNat, Nat.reduceLT, Nat.reduceEqDiff, Nat.reduceAdd, Nat.reduceLeDiff, Nat.reduceSub, Nat.reduceMul, ↓reduceIte, reduceCtorEq, w_app_nl, n3, hne1]
          rw [if_pos (by omega)]
        · intro i hi hi2
          have i1 : ¬ i = m + 12 := by omega
          have i2 : ¬ i = n0 + 1 := by omega
          simp (maxSteps := 1000000) only [go_sem, Int.reduceEq, Int.reduceLT, Int.reduceLE, Int.reduceToNat, Nat.reduceLT, Nat.reduceEqDiff, Nat.reduceAdd, Nat.reduceLeDiff, Nat.reduceSub, Nat.reduceMul, ↓reduceIte, reduceCtorEq, w_app_nl, hi2, i1, i2]
          rw [if_pos (by omega)]; exact hlt0 i hi hi2
        · (try simp (maxSteps := 1000000) only [go_sem, Int.reduceEq, Int.reduceLT, Int.reduceLE, Int.reduceToNat, Nat.reduceLT, Nat.reduceEqDiff, Nat.reduceAdd, Nat.reduceLeDiff, Nat.reduceSub, Nat.reduceMul, ↓reduceIte, reduceCtorEq, w_app_nl]); omega
        · simp (maxSteps := 1000000) only [go_sem, Int.reduceEq, Int.reduceLT, Int.reduceLE, Int.reduceToNat, Nat.reduceLT, Nat.reduceEqDiff, Nat.reduceAdd, Nat.reduceLeDiff, Nat.reduceSub, Nat.reduceMul, ↓reduceIte, reduceCtorEq, w_app_nl, n4, n5]
          rw [if_pos (by omega)]; rfl
      · have n1 : ¬ n0 + 1 = q := by omega
        have n2 : ¬ n0 = q := by omega
        have n3 : ¬ id = q := by omega
        have n4 : ¬ q = n0 + 1 := by omega
        have n5 : ¬ q = id := by omega
        simp (maxSteps := 1000000) (disch := omega) only [go_sem, Int.reduceEq, Int.reduceLT, Int.reduceLE, Int.reduceToNat, Nat.reduceLT, Nat.reduceEqDiff, Nat.reduceAdd, Nat.reduceLeDiff, Nat.reduceSub, Nat.reduceMul, ↓reduceIte, reduceCtorEq, w_app_nl, wrap_id, h4, hp0, hp1, hq, rds_length, hL, hne, hne1, hne2, hne3, hne4, hne5, n1, n2, n3, n4, n5]
        repeat (refine And.intro (by first | omega | (rw [mxL]; omega) | (simp [maxLen]; done) | (simp [maxLen]; omega)) ?_)
        refine up_nextG (m + 15) hrk (by omega) ⟨?_, ?_, .sl (q) (c + 12) 4 0 (r + 1), L ++ [⟨x1, x2, x3, x4⟩], b4, ?_, ?_, ?_, by simp [hL], hL2, .inr ⟨q, c + 12, rfl, by omega, ?_, ?_⟩⟩
        · try simp (maxSteps := 1000000) only [go_sem, Int.reduceEq, Int.reduceLT, Int.reduceLE, Int.reduceToNat, Nat.reduceLT, Nat.reduceEqDiff, Nat.reduceAdd, Nat.reduceLeDiff, Nat.reduceSub, Nat.reduceMul, ↓reduceIte, reduceCtorEq, w_app_nl]
          rw [show k - (r : Int) - 1 = k - ((r + 1 : Nat) : Int) by omega]
        · simp (maxSteps := 1000000) only [go_sem, Int.reduceEq, Int.reduceLT, Int.reduceLE, Int.reduceToNat, Nat.reduceLT, Nat.reduceEqDiff, Nat.reduceAdd, Nat.reduceLeDiff, Nat.reduceSub, Nat.reduceMul, ↓reduceIte, reduceCtorEq, w_app_nl, n2, hne2, hne4]
          rw [if_pos (by omega)]; exact hp0
        · try simp (maxSteps := 1000000) only [go_sem, Int.reduceEq, Int.reduceLT, Int.reduceLE, Int.reduceToNat, Nat.reduceLT, Nat.reduceEqDiff, Nat.reduceAdd, Nat.reduceLeDiff, Nat.reduceSub, Nat.reduceMul, ↓reduceIte, reduceCtorEq, w_app_nl]
          rw [if_pos (by omega)]
        · simp (maxSteps := 1000000) only [go_sem, Int.reduceEq, Int.reduceLT, Int.reduceLE, Int.reduceToNat, Nat.reduceLT, Nat.reduceEqDiff, Nat.reduceAdd, Nat.reduceLeDiff, Nat.reduceSub, Nat.reduceMul, ↓reduceIte, reduceCtorEq, w_app_nl, n3, hne1]
          rw [if_pos (by omega)]
        · intro i hi hi2
          have i1 : ¬ i = q := by omega
          have i2 : ¬ i = n0 + 1 := by omega
          simp (maxSteps := 1000000) only [go_sem, Int.reduceEq, Int.reduceLT, Int.reduceLE, Int.reduceToNat, Nat.reduceLT, Nat.reduceEqDiff, Nat.reduceAdd, Nat.reduceLeDiff, Nat.reduceSub, Nat.reduceMul, ↓reduceIte, reduceCtorEq, w_app_nl, hi2, i1, i2]
          rw [if_pos (by omega)]; exact hlt0 i hi hi2
        · (try simp (maxSteps := 1000000) only [go_sem, Int.reduceEq, Int.reduceLT, Int.reduceLE, Int.reduceToNat, Nat.reduceLT, Nat.reduceEqDiff, Nat.reduceAdd, Nat.reduceLeDiff, Nat.reduceSub, Nat.reduceMul, ↓reduceIte, reduceCtorEq, w_app_nl]); omega
        · simp (maxSteps := 1000000) only [go_sem, Int.reduceEq, Int.reduceLT, Int.reduceLE, Int.reduceToNat, Nat.reduceLT, Nat.reduceEqDiff, Nat.reduceAdd, Nat.reduceLeDiff, Nat.reduceSub, Nat.reduceMul, ↓reduceIte, reduceCtorEq, w_app_nl, n4, n5]
          rw [if_pos (by omega)]; rw [hrd, rds_snoc]
    · have hrk : r = k.toNat := by omega
      simp (maxSteps := 1000000) only [go_sem, Int.reduceEq, Int.reduceLT, Int.reduceLE, Int.reduceToNat, Nat.reduceLT, Nat.reduceEqDiff, Nat.reduceAdd, Nat.reduceLeDiff, Nat.reduceSub, Nat.reduceMul, ↓reduceIte, reduceCtorEq, w_app_nl, hp0, hp1]
      refine ⟨by rcases hX with ⟨rfl, _⟩ | ⟨q, g2, rfl, _⟩ <;> rfl, ⟨a, 1 + b, L⟩, X, at5, rfl, ?_, ?_, ?_, ?_⟩
      · have : L.all rdOk = true := List.all_eq_true.2 hLok
        simp [frOk, inB, this]; omega
      · simp (maxSteps := 1000000) only [go_sem, Int.reduceEq, Int.reduceLT, Int.reduceLE, Int.reduceToNat, Nat.reduceLT, Nat.reduceEqDiff, Nat.reduceAdd, Nat.reduceLeDiff, Nat.reduceSub, Nat.reduceMul, ↓reduceIte, reduceCtorEq, w_app_nl, hne]; exact hpd
      · intro i hi hi2
        have i1 : ¬ i = n0 := by simp only at hi; omega
        simp (maxSteps := 1000000) only [go_sem, Int.reduceEq, Int.reduceLT, Int.reduceLE, Int.reduceToNat, Nat.reduceLT, Nat.reduceEqDiff, Nat.reduceAdd, Nat.reduceLeDiff, Nat.reduceSub, Nat.reduceMul, ↓reduceIte, reduceCtorEq, w_app_nl, i1]; exact hlt0 i hi hi2
      · rcases hX with ⟨rfl, rfl⟩ | ⟨q, g2, rfl, hq1, hqm, hq⟩
        · exact .inl ⟨rfl, rfl⟩
        · have q1 : ¬ q = n0 := by omega
          refine .inr ⟨q, g2, by simp only [hL], by simp only; omega, ?_⟩
          simp (maxSteps := 1000000) only [go_sem, Int.reduceEq, Int.reduceLT, Int.reduceLE, Int.reduceToNat, Nat.reduceLT, Nat.reduceEqDiff, Nat.reduceAdd, Nat.reduceLeDiff, Nat.reduceSub, Nat.reduceMul, ↓reduceIte, reduceCtorEq, w_app_nl, q1]; exact hq
/-- The same, for who calls it: a frame that is proper; the deck is drawn from. -/
def FrameR (σ : St) (id g : Nat) (l : List Int) (r : AV) (σ' : St) : Prop := ∃ F at2 c, r = frv F ∧ frOk F = true ∧ σ' = ⟨upd (fun i => if i < σ.n then σ.ob i else none) id (some ⟨g, 2, ty_Deck, false, true, [deckV l at2]⟩), σ.n, c⟩
theorem hc_flow_Frame (σ : St) (id g : Nat) (l : List Int) (at' : Nat) (hl : l.length ≤ 9223372036854775807) (hid : id < σ.n) (hob : σ.ob id = some ⟨g, 2, ty_Deck, false, true, [deckV l at']⟩) :
    HC prog n_flow_Frame [.ptr id g 2 0 0] σ (FrameR σ id g l) := by
  refine HC.trunc σ.n (HC.seal (fun i => decide (i < σ.n)) (hc_flow_Frame0 σ id g l at' hl hid hob) ?_)
  rintro r σ' ⟨F, X, at2, rfl, hok, h1, h2, h3⟩
  refine ⟨frv F, ?_, F, at2, σ'.c, rfl, hok, ?_⟩
  · refine Pub.agg3 (.pure rfl) (.pure rfl) ?_
    rcases h3 with ⟨rfl, hl0⟩ | ⟨k, g2, rfl, hk, hq⟩
    · rw [hl0]; exact .nl 4
    · exact Pub.of_sl (ty := 34) (ro := false) (ap := true) (by simp only; rw [if_neg (by simp; omega)]; exact hq) (by rw [rds_length]) (rds_pur _) (rds_ok _)
  · simp only [St.trunc]
    congr 1
    funext i
    simp only [upd]
    by_cases e : i = id
    · subst e; simp [hid, h1]
    · rw [if_neg e]
      by_cases hi : i < σ.n
      · simp [hi, h2 i hi e]
      · simp [hi]
end Go.Proofs.Try
