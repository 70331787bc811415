/-
  OWN WORK, put together by tools/asm.py: what functions do.
-/
import Derived.Test.YtekndbmlkheddaaLibB
set_option linter.unusedSimpArgs false
set_option linter.unusedVariables false
set_option maxRecDepth 100000
set_option maxHeartbeats 1000000
namespace Go.Proofs.Try
open Go.Ab Go
open Int renaming reduceEq → jjA, reduceLT → jjB, reduceLE → jjC, reduceToNat → jjD
open Nat renaming reduceLT → jjE, reduceEqDiff → jjF, reduceAdd → jjG, reduceLeDiff → jjH, reduceSub → jjI, reduceMul → jjJ, sub_zero → jjK, sub_self → jjL
/-! What a valid board is like. -/
theorem chB_get {α : Type} {R : α → α → Bool} : ∀ {l : List α} {s : α}, chB R s l = true → ∀ x ∈ l, ∃ y, R y x = true
  | [], _, _, x, hx => by cases hx
  | o :: r, s, h, x, hx => by
    simp only [chB, Bool.and_eq_true] at h
    rcases List.mem_cons.1 hx with rfl | hx
    · exact ⟨s, h.1⟩
    · exact chB_get h.2 x hx
theorem chW_len {n : Nat} : ∀ (l : List Wn) (s : Wn), s.p < n → chB (wnR n) s l = true → (l.length : Int) + s.p < n
  | [], s, hs, _ => by simpa using hs
  | a :: r, s, hs, h => by
    simp only [chB, Bool.and_eq_true] at h
    have h1 := h.1
    simp [wnR] at h1
    have := chW_len r a h1.1.2 h.2
    simp only [List.length_cons]
    omega
theorem cauB_len : ∀ (l : List Cs) (s : Cs), 0 ≤ s.s → s.s ≤ 5 → 6 * s.k + s.s ≤ 29 → chB csR s l = true → (l.length : Int) + 6 * s.k + s.s ≤ 29
  | [], s, _, _, hs, _ => by simpa using hs
  | a :: r, s, h0, h5, hs, h => by
    simp only [chB, Bool.and_eq_true] at h
    have h1 := h.1
    simp [csR, csB, inW, csL] at h1
    have := cauB_len r a (by omega) (by omega) (by omega) h.2
    simp only [List.length_cons]
    omega
theorem cauB_len' {l : List Cs} (h : cauB l = true) : l.length ≤ 29 := by
  have := cauB_len l ⟨0, 0⟩ (by simp) (by simp) (by simp) h
  simp only at this
  omega
/-- A valid board. -/
structure Vb (b : Bo) : Prop where
  p : b.ps.length ≤ 8
  q : b.pa.length = b.ps.length
  w : ∀ x ∈ b.ps, wtB x = true
  l : ∀ (i : Nat) (x : Wt) (y : List Int), b.ps[i]? = some x → b.pa[i]? = some y → (y.length : Int) ≤ x.w ∧ flsB y = true
  c : chB (wnR b.ps.length) wn0 b.ac = true
theorem vdB_iff {b : Bo} : vdB b = true ↔ Vb b := by
  simp only [vdB, Bool.and_eq_true, decide_eq_true_eq]
  constructor
  · rintro ⟨⟨⟨⟨h1, h2⟩, h3⟩, h4⟩, h5⟩
    refine ⟨h1, h3, List.all_eq_true.1 h2, fun i x y hx hy => ?_, h5⟩
    have h6 : (b.ps.zip b.pa)[i]? = some (x, y) := by simp [List.zip, List.getElem?_zipWith, hx, hy]
    have := List.all_eq_true.1 h4 _ (List.mem_of_getElem? h6)
    simpa [paB] using this
  · rintro ⟨h1, h3, h2, h4, h5⟩
    refine ⟨⟨⟨⟨h1, List.all_eq_true.2 h2⟩, h3⟩, List.all_eq_true.2 fun x hx => ?_⟩, h5⟩
    obtain ⟨i, hi⟩ := List.getElem?_of_mem hx
    rw [List.zip, List.getElem?_zipWith] at hi
    split at hi
    · rename_i u v hu hv
      obtain rfl := Option.some.inj hi
      have := h4 i u v hu hv
      simp [paB, this]
    · cases hi
theorem wtB_bd {x : Wt} (h : wtB x = true) : (0 ≤ x.nd ∧ x.nd ≤ 11) ∧ (1 ≤ x.w ∧ x.w ≤ 96) ∧ (1 ≤ x.ld ∧ x.ld ≤ 96) ∧ 0 ≤ x.lim ∧ x.lim ≤ 1073741824 := by
  simp [wtB, inW] at h; omega
theorem wnR_bd {n : Nat} {a w : Wn} (h : wnR n a w = true) : a.p < w.p ∧ w.p < n ∧ wnB w = true := by
  simp [wnR] at h; exact ⟨h.1.1, h.1.2, h.2⟩
theorem Vb.l1 {b : Bo} (h : Vb b) : ∀ l ∈ b.pa, l.length ≤ 96 ∧ okFl l := fun l hl => by
  obtain ⟨i, hi⟩ := List.getElem?_of_mem hl
  have hlt := (List.getElem?_eq_some_iff.1 hi).1
  have hlt2 : i < b.ps.length := by have := h.q; omega
  have hx : b.ps[i]? = some b.ps[i] := List.getElem?_eq_getElem hlt2
  obtain ⟨h1, h2⟩ := h.l i _ l hx hi
  have := (wtB_bd (h.w _ (List.mem_of_getElem? hx))).2.1
  exact ⟨by omega, flsB_ok h2⟩
theorem Vb.a1 {b : Bo} (h : Vb b) : b.ac.length ≤ 8 := by
  have h1 := chW_len b.ac wn0 (by simp only [wn0]; omega) h.c
  have := h.p
  simp only [wn0] at h1
  omega
theorem Vb.wn {b : Bo} (h : Vb b) : ∀ w ∈ b.ac, wnB w = true := fun w hw => by
  obtain ⟨y, hy⟩ := chB_get h.c w hw
  exact (wnR_bd hy).2.2
theorem wnB_cs {w : Wn} (h : wnB w = true) : w.cs.length ≤ 29 := by
  simp [wnB] at h; exact cauB_len' h.1.1.2
theorem wnB_bd {w : Wn} (h : wnB w = true) : 0 ≤ w.t ∧ w.t ≤ 16777216 ∧ 0 ≤ w.cm ∧ w.cm ≤ 96 ∧ cauB w.cs = true ∧ (w.cs = [] ∨ w.cm = 0) := by
  simp [wnB, inW] at h; exact ⟨by omega, by omega, by omega, by omega, h.1.1.2, h.2⟩
theorem Vb.lo {b : Bo} (h : Vb b) : ∀ w ∈ b.ac, 0 ≤ w.p ∧ w.p < b.ps.length := fun w hw => by
  have h1 := chW_gt _ _ h.c w hw
  obtain ⟨y, hy⟩ := chB_get h.c w hw
  have h2 := (wnR_bd hy).2.1
  simp only [wn0] at h1
  omega
theorem Vb.sz {b : Bo} (h : Vb b) : BoL b :=
  ⟨by have := h.p; omega, by have := h.p; have := h.q; omega, fun x hx => by have := (h.l1 x hx).1; omega, by have := h.a1; omega, fun w hw => by have := wnB_cs (h.wn w hw); omega⟩
theorem pub_boZ {σ : St} : Pub σ (.agg [.nil, .nil, .nil]) (bov boZ) := Pub.ag (.cons (.nl 4) (.cons (.nl 1) (.cons (.nl 4) .nil)))
theorem Vb.copy {b : Bo} (h : Vb b) {P : Prop} (k : b.ps.length ≤ 1000000 → b.pa.length ≤ 1000000 → (∀ l ∈ b.pa, l.length ≤ 1000000) → b.ac.length ≤ 1000000 → (∀ w ∈ b.ac, w.cs.length ≤ 1000000) → P) : P :=
  k (by have := h.p; omega) (by have := h.p; have := h.q; omega) (fun l hl => by have := (h.l1 l hl).1; omega) (by have := h.a1; omega) (fun w hw => by have := wnB_cs (h.wn w hw); omega)
/-! lists of indices -/
def selL (p : Nat → Bool) (n : Nat) : List Int := ((List.range n).filter p).map fun (i : Nat) => (i : Int)
theorem selL_zero (p : Nat → Bool) : selL p 0 = [] := rfl
theorem selL_succ (p : Nat → Bool) (n : Nat) : selL p (n + 1) = selL p n ++ (if p n then [(n : Int)] else []) := by
  simp only [selL, List.range_succ, List.filter_append, List.map_append]
  cases h : p n <;> simp [h]
theorem selL_len (p : Nat → Bool) (n : Nat) : (selL p n).length ≤ n := by
  simp only [selL, List.length_map]
  exact Nat.le_trans (List.length_filter_le _ _) (by simp)
theorem selL_mem {p : Nat → Bool} {n : Nat} {x : Int} : x ∈ selL p n ↔ ∃ i : Nat, i < n ∧ p i = true ∧ x = i := by
  simp only [selL, List.mem_map, List.mem_filter, List.mem_range]
  constructor
  · rintro ⟨i, ⟨h1, h2⟩, rfl⟩; exact ⟨i, h1, h2, rfl⟩
  · rintro ⟨i, h1, h2, rfl⟩; exact ⟨i, ⟨h1, h2⟩, rfl⟩
/-! parts of a board -/
def gW (b : Bo) (i : Nat) : Wt := b.ps.getD i ⟨0, 0, 0, 0⟩
def gL (b : Bo) (i : Nat) : List Int := b.pa.getD i []
def gN (l : List Int) (i : Nat) : Int := l.getD i 0
theorem gW_get {b : Bo} {i : Nat} (h : i < b.ps.length) : b.ps[i]? = some (gW b i) := by simp [gW, List.getD_eq_getElem?_getD, List.getElem?_eq_getElem h]
theorem gL_get {b : Bo} {i : Nat} (h : i < b.pa.length) : b.pa[i]? = some (gL b i) := by simp [gL, List.getD_eq_getElem?_getD, List.getElem?_eq_getElem h]
theorem gN_get {l : List Int} {i : Nat} (h : i < l.length) : l[i]? = some (gN l i) := by simp [gN, List.getD_eq_getElem?_getD, List.getElem?_eq_getElem h]
def pastI (b : Bo) (now : List Int) (i : Nat) : List Int := lastW (gL b i ++ [gN now i]) (gW b i).w
def roseI (b : Bo) (now : List Int) (i : Nat) : Bool := decide ((gW b i).lim < riseS (gL b i) (gW b i).w (gN now i))
def seeB (b : Bo) (now : List Int) : Bo := ⟨b.ps, (List.range b.ps.length).map (pastI b now), b.ac⟩
def seeE (b : Bo) (now : List Int) : Int := if vdB b = false then 50 else if now.length ≠ b.ps.length then 3 else if flsB now = false then 1 else 0
def seeR (b : Bo) (now : List Int) : Bo × List Int := if seeE b now = 0 then (seeB b now, selL (roseI b now) b.ps.length) else (boZ, [])
def seeV (b : Bo) (now : List Int) : AV := .tuple [bov (seeR b now).1, .list 1 (ints (seeR b now).2), .int .i64 (seeE b now)]
theorem see_bad {b : Bo} {now : List Int} {n : Int} (h : seeE b now = n) (hn : n ≠ 0) {σ : St} : Pub σ (.tuple [.agg [.nil, .nil, .nil], .nil, .int .i64 n]) (seeV b now) := by
  rw [seeV, h, seeR, if_neg (by rw [h]; exact hn)]
  exact Pub.tu (.cons pub_boZ (.cons (.nl 1) (.cons (Pub.e rfl) .nil)))
theorem see_e50 {b : Bo} {now : List Int} (h : vdB b = false) : seeE b now = 50 := by rw [seeE, if_pos h]
theorem see_e3 {b : Bo} {now : List Int} (h : vdB b = true) (h2 : now.length ≠ b.ps.length) : seeE b now = 3 := by rw [seeE, if_neg (by simp [h]), if_pos h2]
theorem see_e1 {b : Bo} {now : List Int} (h : vdB b = true) (h2 : now.length = b.ps.length) (h3 : flsB now = false) : seeE b now = 1 := by rw [seeE, if_neg (by simp [h]), if_neg (by simp [h2]), if_pos h3]
theorem see_e0 {b : Bo} {now : List Int} (h : vdB b = true) (h2 : now.length = b.ps.length) (h3 : flsB now = true) : seeE b now = 0 := by rw [seeE, if_neg (by simp [h]), if_neg (by simp [h2]), if_neg (by simp [h3])]
/-- what stands in a slot, under a name that a rewriter does not look into -/
def At (e : Nat → AV) (i : Nat) (X : AV) : Prop := e i = X
theorem setc_one {off : Nat} {v y : AV} (h : y.one = true) : setc off v y = v := by cases y <;> simp_all [AV.one, setc]
theorem hkeep_mem {af : List Nat} {R : List (Nat × Nat)} {ob ob' : Nat → Option AObj} (h : ∀ x ∈ R, x.1 ∈ af) : hkeep af R ob ob' := fun x hx => .inl (h x hx)
theorem ok_ref36_See (b : Bo) (now : List Int) (h : BoL b) (hn : now.length ≤ 9223372036854775807) : PC prog n_ref36_See [bov b, .list 1 (ints now)] (seeV b now) := by
  refine PC_of_body b_ref36_See (by simp) ?_
  simp only [c_ref36_See, bov]
  try simp (maxSteps := 500000) (disch := omega) only [go_sem, jjA, jjB, jjC, jjD, jjE, jjF, jjG, jjH, jjI, jjJ, ↓reduceIte, reduceCtorEq, wrap_id, w_ite_ne, w_ite_lt, jjK, jjL]
  have hC := ok_ref36_Check b h
  simp only [bov] at hC
  refine call_pc hC (by simp [go_sem, wts_pur, lls_pur, wns_pur]) ?_
  cases hv : vdB b <;> try simp (maxSteps := 500000) (disch := omega) only [go_sem, jjA, jjB, jjC, jjD, jjE, jjF, jjG, jjH, jjI, jjJ, ↓reduceIte, reduceCtorEq, wrap_id, w_ite_ne, w_ite_lt, jjK, jjL, chkE, hv, ints_length, wts_length]
  · exact see_bad (see_e50 hv) (by omega)
  refine cond_n (fun g1 => ?_) (fun g1 => ?_) <;> try simp (maxSteps := 500000) (disch := omega) only [go_sem, jjA, jjB, jjC, jjD, jjE, jjF, jjG, jjH, jjI, jjJ, ↓reduceIte, reduceCtorEq, wrap_id, w_ite_ne, w_ite_lt, jjK, jjL, ints_length, wts_length]
  · exact see_bad (see_e3 hv (by omega)) (by omega)
  refine call_pc (ok_ref36_flows now hn) (by simp [go_sem, ints_pur]) ?_
  cases hf : flsB now <;> try simp (maxSteps := 500000) (disch := omega) only [go_sem, jjA, jjB, jjC, jjD, jjE, jjF, jjG, jjH, jjI, jjJ, ↓reduceIte, reduceCtorEq, wrap_id, w_ite_ne, w_ite_lt, jjK, jjL]
  · exact see_bad (see_e1 hv (by omega) hf) (by omega)
  have hV := vdB_iff.1 hv
  have hcp := fun σ => hV.copy (hcQ_ref36_Copy σ b)
  simp only [bov] at hcp
  refine (hcp _).mono ?_
  rintro r ⟨ob1, n1, c1⟩ ⟨X, Es0, l1, rfl, hX0, hI0, hG0, hl1, hn1, ho1⟩
  have u0 := ho1 0 (by simp only; omega)
  have u1 := ho1 1 (by simp only; omega)
  try simp (maxSteps := 500000) (disch := omega) only [go_sem, jjA, jjB, jjC, jjD, jjE, jjF, jjG, jjH, jjI, jjJ, ↓reduceIte, reduceCtorEq, wrap_id, w_ite_ne, w_ite_lt, jjK, jjL] at u0
  try simp (maxSteps := 500000) (disch := omega) only [go_sem, jjA, jjB, jjC, jjD, jjE, jjF, jjG, jjH, jjI, jjJ, ↓reduceIte, reduceCtorEq, wrap_id, w_ite_ne, w_ite_lt, jjK, jjL] at u1
  try simp (maxSteps := 500000) (disch := omega) only [go_sem, jjA, jjB, jjC, jjD, jjE, jjF, jjG, jjH, jjI, jjJ, ↓reduceIte, reduceCtorEq, wrap_id, w_ite_ne, w_ite_lt, jjK, jjL] at hl1
  try simp (maxSteps := 500000) (disch := omega) only [go_sem, jjA, jjB, jjC, jjD, jjE, jjF, jjG, jjH, jjI, jjJ, ↓reduceIte, reduceCtorEq, wrap_id, w_ite_ne, w_ite_lt, jjK, jjL] at hn1
  have z0 : ¬ 0 = n1 := by omega
  have z1 : ¬ 1 = n1 := by omega
  try simp (maxSteps := 500000) (disch := omega) only [go_sem, jjA, jjB, jjC, jjD, jjE, jjF, jjG, jjH, jjI, jjJ, ↓reduceIte, reduceCtorEq, wrap_id, w_ite_ne, w_ite_lt, jjK, jjL, u0, u1, z0, z1, hX0.flat, hX0.cells, hX0.one, wts_length]
  refine awp_upG [8, 9, 10, 11, 32, 33, 34, 35, 36, 37, 38, 39, 40, 41, 42, 43, 44, 45, 46, 47, 48, 49, 50, 51, 52, 53, 54, 55, 56, 57, 58, 59, 60, 61, 62, 63, 64, 65, 66, 67, 68, 69, 70, 71, 72, 73, 74, 75, 76, 77, 78, 79] (by kernel_rfl) b.ps.length (fun k e σ => e 32 = .int .i64 k ∧ n1 + 1 ≤ σ.n ∧ (∀ i, i < 2 → σ.ob i = ob1 i) ∧ σ.ob n1 = some ⟨c1, 3, 31, false, true, [.agg [.list 4 (wts b.ps), X, .list 4 (wns b.ac)]]⟩ ∧ ∃ Es Z, At e 8 Z ∧ SlR 1 3 σ (ints (selL (roseI b now) k)) Z ∧ SlR 1 tyL σ Es X ∧ Es.length = b.ps.length ∧
    (∀ (i : Nat) (E : AV), Es[i]? = some E → (k ≤ i → SlR 1 3 σ (ints (gL b i)) E) ∧ (i < k → ER 1 σ (ints (pastI b now i)) E)) ∧ Grp σ 2 X Es ∧ (∀ i, ¬ Oth X i → i < n1) ∧ (∀ E ∈ Es, Oth E n1) ∧ (∀ i, ¬ Oth Z i → n1 < i ∧ i < σ.n ∧ ∀ E ∈ Es, Oth E i)) ?_ ?_
  · have hag : ∀ i, i < n1 → upd (upd ob1 n1 (some (⟨c1, 3, 31, false, true, [.agg [.nil, .nil, .nil]]⟩ : AObj))) n1 (some ⟨c1, 3, 31, false, true, [.agg [.list 4 (wts b.ps), X, .list 4 (wns b.ac)]]⟩) i = ob1 i := fun i hi => by
      rw [upd_ne _ _ _ _ (by omega), upd_ne _ _ _ _ (by omega)]
    refine ⟨(by first | ((try simp (maxSteps := 1000000) only [go_sem, jjA, jjB, jjC, jjD, jjE, jjF, jjG, jjH, jjI, jjJ, ↓reduceIte, reduceCtorEq, w_app_nl]); done) | ((try simp (maxSteps := 1000000) only [go_sem, jjA, jjB, jjC, jjD, jjE, jjF, jjG, jjH, jjI, jjJ, ↓reduceIte, reduceCtorEq, w_app_nl]); rfl) | ((try simp (maxSteps := 1000000) (disch := omega) only [go_sem, jjA, jjB, jjC, jjD, jjE, jjF, jjG, jjH, jjI, jjJ, ↓reduceIte, reduceCtorEq, w_app_nl, wrap_id, w_ite_ne, w_ite_lt]); rfl) | (simp (maxSteps := 1000000) (disch := omega) only [go_sem, jjA, jjB, jjC, jjD, jjE, jjF, jjG, jjH, jjI, jjJ, ↓reduceIte, reduceCtorEq, w_app_nl, wrap_id, w_ite_ne, w_ite_lt]; done)), Nat.le_refl _, fun i hi => hag i (by omega), upd_same _ _ _, Es0, .nil, (by first | ((try simp (maxSteps := 1000000) only [go_sem, jjA, jjB, jjC, jjD, jjE, jjF, jjG, jjH, jjI, jjJ, ↓reduceIte, reduceCtorEq, w_app_nl]); done) | ((try simp (maxSteps := 1000000) only [go_sem, jjA, jjB, jjC, jjD, jjE, jjF, jjG, jjH, jjI, jjJ, ↓reduceIte, reduceCtorEq, w_app_nl]); rfl) | ((try simp (maxSteps := 1000000) (disch := omega) only [go_sem, jjA, jjB, jjC, jjD, jjE, jjF, jjG, jjH, jjI, jjJ, ↓reduceIte, reduceCtorEq, w_app_nl, wrap_id, w_ite_ne, w_ite_lt]); rfl) | (simp (maxSteps := 1000000) (disch := omega) only [go_sem, jjA, jjB, jjC, jjD, jjE, jjF, jjG, jjH, jjI, jjJ, ↓reduceIte, reduceCtorEq, w_app_nl, wrap_id, w_ite_ne, w_ite_lt]; done)), SlR.nil, hX0.move (by simp only; omega) fun i hi _ => hag i hi, by have := hI0.1; simpa [inI, hV.q] using this, fun i E hE => ⟨fun _ => ?_, fun h => by omega⟩,
      ⟨fun i hi => ?_, fun E hE i hi => ?_, hG0.sep, hG0.dj⟩, fun i hi => hX0.lt hi, fun E hE => Oth.em fun h => ?_, fun i hi => absurd (Oth.nil i) hi⟩
    · have h1 := hI0.1
      have h2 := (List.getElem?_eq_some_iff.1 hE).1
      have h3 := gL_get (b := b) (i := i) (by simp [inI] at h1; omega)
      exact (hI0.2 i E (ints (gL b i)) hE (by simp [inI, h3])).move (by simp only; omega) fun j hj _ => hag j hj
    · have := hG0.low i hi; simp only at this ⊢; omega
    · have := hG0.loE E hE i hi; simp only at this ⊢; omega
    · have := (hG0.loE E hE n1 h).2; simp only at this; omega
  rintro k fe ob m c hk hm ⟨h32, hm1, ho, hq, Es, Z, h8, hZ, hX, hEl, hE, hG, hXn, hEn, hZn⟩
  simp (maxSteps := 1000000) only [go_sem, jjA, jjB, jjC, jjD, jjE, jjF, jjG, jjH, jjI, jjJ, ↓reduceIte, reduceCtorEq, w_app_nl, At] at h32 hm hm1 ho hq h8
  try simp (maxSteps := 500000) (disch := omega) only [go_sem, jjA, jjB, jjC, jjD, jjE, jjF, jjG, jjH, jjI, jjJ, ↓reduceIte, reduceCtorEq, wrap_id, w_ite_ne, w_ite_lt, jjK, jjL, h32, wts_length]
  have u0' : ob 0 = some ⟨0, 3, 31, false, true, [.agg [.list 4 (wts b.ps), .list 1 (lls b.pa), .list 4 (wns b.ac)]]⟩ := by rw [ho 0 (by omega), u0]
  refine cond_d (fun hlt => ?_) (fun hge => ?_)
  · have hkl : k < b.ps.length := by omega
    have hk2 := gW_get hkl
    have hk3 := gL_get (b := b) (i := k) (by rw [hV.q]; exact hkl)
    have hk4 := gN_get (l := now) (i := k) (by omega)
    have hwt := wtB_bd (hV.w _ (List.mem_of_getElem? hk2))
    obtain ⟨hll, hlf⟩ := hV.l1 _ (List.mem_of_getElem? hk3)
    have hfk := flsB_ok hf _ (List.mem_of_getElem? hk4)
    have z3 : ¬ 0 = m := by omega
    have z4 : ¬ m = 0 := by omega
    have z5 : ¬ n1 = m := by omega
    have hsel := selL_len (roseI b now) k
    have hps := hV.p
    have hpq := hV.q
    try simp (maxSteps := 500000) (disch := omega) only [go_sem, jjA, jjB, jjC, jjD, jjE, jjF, jjG, jjH, jjI, jjJ, ↓reduceIte, reduceCtorEq, wrap_id, w_ite_ne, w_ite_lt, jjK, jjL, h32, wts_length, lls_length, ints_length, wts_get, lls_get, ints_get, hk2, hk3, hk4, Option.map_some, wtv, u0', z3, z4, z5]
    refine ⟨by omega, by omega, by omega, by omega, by omega, by omega, ?_⟩
    refine call_pc (ok_ref35_Rise (gL b k) (gW b k).w (gN now k) (by omega) (by omega) hlf hfk) (by simp [go_sem, ints_pur]) ?_
    try simp (maxSteps := 500000) (disch := omega) only [go_sem, jjA, jjB, jjC, jjD, jjE, jjF, jjG, jjH, jjI, jjJ, ↓reduceIte, reduceCtorEq, wrap_id, w_ite_ne, w_ite_lt, jjK, jjL]
    refine cond_cut [8, 52, 53, 54, 55] (by kernel_rfl) (fun e σ => m < σ.n ∧ (∀ i, i < m → Oth Z i → σ.ob i = ob i) ∧ σ.ob m = some ⟨c, 4, 41, false, true, [wtv (gW b k)]⟩ ∧ ∃ Z', At e 8 Z' ∧ SlR 1 3 σ (ints (selL (roseI b now) (k + 1))) Z' ∧ ∀ i, i ≤ m → Oth Z i → Oth Z' i) ?_ ?_
    · refine cond_d (fun hr => ?_) (fun hr => ?_)
      · try simp (maxSteps := 500000) (disch := omega) only [go_sem, jjA, jjB, jjC, jjD, jjE, jjF, jjG, jjH, jjI, jjJ, ↓reduceIte, reduceCtorEq, wrap_id, w_ite_ne, w_ite_lt, jjK, jjL, h8]
        refine app_slr (L := ints (selL (roseI b now) k)) (b := 8) (hZ.move (by simp only; omega) fun i hi hh => ?_) (by rw [ints_length]; omega) (by rw [ints_length]; omega) fun Z' τ hZ' kZ => ?_
        · simp only at hi ⊢
          rw [upd_ne _ _ _ _ (by omega), upd_ne _ _ _ _ (by omega)]
        obtain ⟨ob2, m2, c2⟩ := τ
        have q1 : m + 1 ≤ m2 := kZ.1
        try simp (maxSteps := 500000) (disch := omega) only [go_sem, jjA, jjB, jjC, jjD, jjE, jjF, jjG, jjH, jjI, jjJ, ↓reduceIte, reduceCtorEq, wrap_id, w_ite_ne, w_ite_lt, jjK, jjL]
        refine ⟨by omega, fun i hi hh => (kZ.2.1 i (by simp only; omega) hh).trans (by simp only; rw [upd_ne _ _ _ _ (by omega), upd_ne _ _ _ _ (by omega)]), (kZ.2.1 m (by simp only; omega) (hZ.oth (Nat.le_refl _))).trans (by simp only; rw [upd_same]; rfl), Z', (by simp only [At]; try simp (maxSteps := 500000) (disch := omega) only [go_sem, jjA, jjB, jjC, jjD, jjE, jjF, jjG, jjH, jjI, jjJ, ↓reduceIte, reduceCtorEq, wrap_id, w_ite_ne, w_ite_lt, jjK, jjL]), ?_, fun i hi hh => kZ.2.2 i (by simp only; omega) hh⟩
        rw [selL_succ, show roseI b now k = true from decide_eq_true hr, if_pos rfl, ← ints_append]
        exact hZ'
      · try simp (maxSteps := 500000) (disch := omega) only [go_sem, jjA, jjB, jjC, jjD, jjE, jjF, jjG, jjH, jjI, jjJ, ↓reduceIte, reduceCtorEq, wrap_id, w_ite_ne, w_ite_lt, jjK, jjL, h8]
        refine ⟨by omega, fun i hi hh => by rw [if_neg (by omega)], rfl, Z, (by simp only [At]; try simp (maxSteps := 500000) (disch := omega) only [go_sem, jjA, jjB, jjC, jjD, jjE, jjF, jjG, jjH, jjI, jjJ, ↓reduceIte, reduceCtorEq, wrap_id, w_ite_ne, w_ite_lt, jjK, jjL, h8]), ?_, fun i hi hh => hh⟩
        rw [selL_succ, show roseI b now k = false from decide_eq_false hr, if_neg (by simp), List.append_nil]
        refine hZ.move (by simp only; omega) fun i hi hh => ?_
        simp only at hi ⊢
        rw [upd_ne _ _ _ _ (by omega), upd_ne _ _ _ _ (by omega)]
    · rintro fe3 ⟨ob3, m3, c3⟩ ⟨hm3, ho3, hob3, Z', h83, hZ3, hZZ⟩
      simp (maxSteps := 1000000) only [go_sem, jjA, jjB, jjC, jjD, jjE, jjF, jjG, jjH, jjI, jjJ, ↓reduceIte, reduceCtorEq, w_app_nl, At] at hm3 ho3 hob3 h83
      have oZn : Oth Z n1 := Oth.em fun h => by have := (hZn n1 h).1; omega
      have hq3 : ob3 n1 = some ⟨c1, 3, 31, false, true, [.agg [.list 4 (wts b.ps), X, .list 4 (wns b.ac)]]⟩ := by rw [ho3 n1 (by omega) oZn, hq]
      have hkE : k < Es.length := by omega
      obtain ⟨E, hEk⟩ : ∃ E, Es[k]? = some E := ⟨_, List.getElem?_eq_getElem hkE⟩
      have oEZ : ∀ F ∈ Es, ∀ i, ¬ Oth F i → Oth Z i := fun F hF i hi => Oth.em fun h => hi ((hZn i h).2.2 F hF)
      rcases hX with ⟨_, h0⟩ | ⟨id, g, rfl, hid, hoX⟩
      · rw [h0] at hkE; simp at hkE
      have hidn := hXn id fun h => h _ _ _ _ rfl
      simp only at hid hoX
      have oZid : Oth Z id := Oth.em fun h => by have := (hZn id h).1; omega
      have hoX3 : ob3 id = some ⟨g, 1, 22, false, true, Es⟩ := by rw [ho3 id hid oZid, hoX]
      have hE0 := (hE k E hEk).1 (Nat.le_refl _)
      have hEm : E ∈ Es := List.mem_of_getElem? hEk
      have hE3 : SlR 1 3 ⟨ob3, m3, c3⟩ (ints (gL b k)) E := hE0.move (by simp only; omega) fun i hi hh => ho3 i hi (oEZ E hEm i hh)
      try simp (maxSteps := 500000) (disch := omega) only [go_sem, jjA, jjB, jjC, jjD, jjE, jjF, jjG, jjH, jjI, jjJ, ↓reduceIte, reduceCtorEq, wrap_id, w_ite_ne, w_ite_lt, jjK, jjL, hob3, h83, hq3, hoX3, hk4, ints_length, ints_get, Option.map_some, hEk, wtv, hE3.cells]
      refine ⟨by omega, by omega, by omega, by omega, ?_⟩
      refine app_slr hE3 (by rw [ints_length]; omega) (by rw [ints_length]; omega) fun E' τ hE4 kE => ?_
      obtain ⟨ob4, m4, c4⟩ := τ
      have q1 : m3 ≤ m4 := kE.1
      have q2 : ∀ i, i < m3 → Oth E i → ob4 i = ob3 i := fun i hi hh => kE.2.1 i hi hh
      have oEm : Oth E m := Oth.em fun h => by have := (hG.loE E hEm m h).2; simp only at this; omega
      have hob4 := (q2 m hm3 oEm).trans hob3
      have hq4 := (q2 n1 (by omega) (hEn E hEm)).trans hq3
      have oEid : Oth E id := Oth.em fun h => hG.sep E hEm id h _ _ _ _ rfl
      have hoX4 := (q2 id (by omega) oEid).trans hoX3
      rw [ints_one, ints_app] at hE4
      try simp (maxSteps := 500000) (disch := omega) only [go_sem, jjA, jjB, jjC, jjD, jjE, jjF, jjG, jjH, jjI, jjJ, ↓reduceIte, reduceCtorEq, wrap_id, w_ite_ne, w_ite_lt, jjK, jjL, hob4, hq4, hoX4, wtv]
      refine ER.len (ER.of_slr hE4) ?_
      have hlen : (ints (gL b k ++ [gN now k])).length = (gL b k).length + 1 := by rw [ints_length]; simp
      try simp (maxSteps := 500000) (disch := omega) only [go_sem, jjA, jjB, jjC, jjD, jjE, jjF, jjG, jjH, jjI, jjJ, ↓reduceIte, reduceCtorEq, wrap_id, w_ite_ne, w_ite_lt, jjK, jjL, hob4, hq4, hoX4, wtv, hlen]
      refine ER.drop (k := (gL b k ++ [gN now k]).length - (gW b k).w.toNat) (ER.of_slr hE4) (by simp; omega) (by rw [hlen]; simp only [List.length_append, List.length_singleton]; omega) fun E'' hE5 oE5 => ?_
      try simp (maxSteps := 500000) (disch := omega) only [go_sem, jjA, jjB, jjC, jjD, jjE, jjF, jjG, jjH, jjI, jjJ, ↓reduceIte, reduceCtorEq, wrap_id, w_ite_ne, w_ite_lt, jjK, jjL, hob4, hq4, hoX4, hE5.flat, hE5.cells, hE5.one]
      refine ⟨by omega, by omega, E, hEk, hkeep_mem (by
        intro x hx
        simp only [tagR, List.mem_append, List.mem_map, List.mem_singleton] at hx
        rcases hx with (⟨j, _, rfl⟩ | rfl) | rfl <;> simp), ?_⟩
      rw [setc_one hE3.one]
      have hF : ∀ i, i < m4 → i ≠ id → ((⟨upd ob4 id (some ⟨g, 1, 22, false, true, Es.set k E''⟩), m4, c4⟩ : St).trunc m4).ob i = ob4 i := fun i hi hne => by
        simp only [St.trunc, if_pos hi]; rw [upd_ne _ _ _ _ hne]
      have hFid : ((⟨upd ob4 id (some ⟨g, 1, 22, false, true, Es.set k E''⟩), m4, c4⟩ : St).trunc m4).ob id = some ⟨g, 1, 22, false, true, Es.set k E''⟩ := by
        simp only [St.trunc, if_pos (show id < m4 by omega), upd_same]
      have hloE : ∀ F ∈ Es, ∀ i, ¬ Oth F i → 2 ≤ i ∧ i < m := fun F hF i hi => hG.loE F hF i hi
      have hidlo := (hG.low id fun h => h _ _ _ _ rfl).1
      have oE'' : ∀ i, i < m3 → Oth E i → Oth E'' i := fun i hi hh => oE5 i (kE.2.2 i hi hh)
      have hE''lt : ∀ i, ¬ Oth E'' i → i < m4 := fun i hi => Nat.lt_of_not_le fun hh => hi (oE5 i (hE4.oth hh))
      have hZ'E : ∀ i, ¬ Oth Z' i → n1 < i ∧ i < m3 ∧ ∀ F ∈ Es, Oth F i := fun i hi => by
        have h1 := hZ3.lt hi
        by_cases him : i ≤ m
        · have h2 := hZn i fun hh => hi (hZZ i him hh)
          exact ⟨h2.1, h1, h2.2.2⟩
        · exact ⟨by omega, h1, fun F hF => Oth.em fun hh => by have := (hloE F hF i hh).2; omega⟩
      have hold : ∀ F ∈ Es, ∀ i, ¬ Oth F i → Oth E i → ((⟨upd ob4 id (some ⟨g, 1, 22, false, true, Es.set k E''⟩), m4, c4⟩ : St).trunc m4).ob i = ob i := fun F hF2 i hi hh => by
        have h1 := (hloE F hF2 i hi).2
        rw [hF i (by omega) fun h => hG.sep F hF2 i hi _ _ _ _ (by rw [h]), q2 i (by omega) hh, ho3 i h1 (oEZ F hF2 i hi)]
      have hsetm : ∀ F, F ∈ Es.set k E'' → F ∈ Es ∨ F = E'' := fun F hF => List.mem_or_eq_of_mem_set hF
      refine up_nextG m4 hkl (by omega) ⟨(by first | ((try simp (maxSteps := 1000000) only [go_sem, jjA, jjB, jjC, jjD, jjE, jjF, jjG, jjH, jjI, jjJ, ↓reduceIte, reduceCtorEq, w_app_nl]); done) | ((try simp (maxSteps := 1000000) only [go_sem, jjA, jjB, jjC, jjD, jjE, jjF, jjG, jjH, jjI, jjJ, ↓reduceIte, reduceCtorEq, w_app_nl]); rfl) | ((try simp (maxSteps := 1000000) (disch := omega) only [go_sem, jjA, jjB, jjC, jjD, jjE, jjF, jjG, jjH, jjI, jjJ, ↓reduceIte, reduceCtorEq, w_app_nl, wrap_id, w_ite_ne, w_ite_lt]); rfl) | (simp (maxSteps := 1000000) (disch := omega) only [go_sem, jjA, jjB, jjC, jjD, jjE, jjF, jjG, jjH, jjI, jjJ, ↓reduceIte, reduceCtorEq, w_app_nl, wrap_id, w_ite_ne, w_ite_lt]; done)), by simp only [St.trunc]; omega, fun i hi => ?_, ?_, Es.set k E'', Z', (by simp only [At]; try simp (maxSteps := 500000) (disch := omega) only [go_sem, jjA, jjB, jjC, jjD, jjE, jjF, jjG, jjH, jjI, jjJ, ↓reduceIte, reduceCtorEq, wrap_id, w_ite_ne, w_ite_lt, jjK, jjL, h83]), ?_, ?_, by simpa using hEl, fun i F hF2 => ?_, ⟨fun i hi => ?_, fun F hF2 i hi => ?_, fun F hF2 i hi => ?_, fun a b' F G hab hF2 hG2 i hi => ?_⟩, hXn, fun F hF2 => ?_, fun i hi => ?_⟩
      · rw [hF i (by omega) (by omega), q2 i (by omega) (Oth.em fun hh => by have := (hloE E hEm i hh).1; omega), ho3 i (by omega) (Oth.em fun hh => by have := (hZn i hh).1; omega), ho i hi]
      · rw [hF n1 (by omega) (by omega), hq4]
      · refine hZ3.move (by simp only [St.trunc]; omega) fun i hi hh => ?_
        have h1 := hZ'E i hh
        simp only at hi ⊢
        rw [hF i (by omega) (by omega), q2 i hi (h1.2.2 E hEm)]
      · exact .inr ⟨id, g, by simp, by simp only [St.trunc]; omega, hFid⟩
      · by_cases hik : i = k
        · subst hik
          rw [List.getElem?_set_self hkE] at hF2
          obtain rfl := Option.some.inj hF2
          refine ⟨fun h => by omega, fun _ => ?_⟩
          rw [pastI, lastW, ← ints_drop]
          refine hE5.keep (by simp only [St.trunc]; omega) fun j hj hh => hF j hj fun h => hh (h ▸ oE'' id (by omega) oEid)
        · rw [List.getElem?_set_ne (fun h => hik h.symm)] at hF2
          have hFm := List.mem_of_getElem? hF2
          have hag : ∀ j, ¬ Oth F j → ((⟨upd ob4 id (some ⟨g, 1, 22, false, true, Es.set k E''⟩), m4, c4⟩ : St).trunc m4).ob j = ob j := fun j hj => hold F hFm j hj (hG.dj i k F E hik hF2 hEk j hj)
          exact ⟨fun h => ((hE i F hF2).1 (by omega)).move (by simp only [St.trunc]; omega) fun j _ hj => hag j hj, fun h => ((hE i F hF2).2 (by omega)).keep (by simp only [St.trunc]; omega) fun j _ hj => hag j hj⟩
      · have := hG.low i hi
        simp only [St.trunc] at this ⊢
        omega
      · simp only [St.trunc]
        rcases hsetm F hF2 with h1 | rfl
        · have := hloE F h1 i hi; omega
        · refine ⟨Nat.le_of_not_lt fun hh => hi (oE'' i (by omega) (Oth.em fun h2 => by have := (hloE E hEm i h2).1; omega)), hE''lt i hi⟩
      · rcases hsetm F hF2 with h1 | rfl
        · exact hG.sep F h1 i hi
        · exact Oth.sl fun h => hi (h ▸ oE'' id (by omega) oEid)
      · by_cases ha : a = k
        · subst ha
          rw [List.getElem?_set_self hkE] at hF2
          obtain rfl := Option.some.inj hF2
          rw [List.getElem?_set_ne (fun h => hab h)] at hG2
          exact Oth.em fun hh => hi (oE'' i (by have := (hloE G (List.mem_of_getElem? hG2) i hh).2; omega) (hG.dj b' a G E (fun h => hab h.symm) hG2 hEk i hh))
        · rw [List.getElem?_set_ne (fun h => ha h.symm)] at hF2
          by_cases hb : b' = k
          · subst hb
            rw [List.getElem?_set_self hkE] at hG2
            obtain rfl := Option.some.inj hG2
            exact oE'' i (by have := (hloE F (List.mem_of_getElem? hF2) i hi).2; omega) (hG.dj a b' F E hab hF2 hEk i hi)
          · rw [List.getElem?_set_ne (fun h => hb h.symm)] at hG2
            exact hG.dj a b' F G hab hF2 hG2 i hi
      · rcases hsetm F hF2 with h1 | rfl
        · exact hEn F h1
        · exact oE'' n1 (by omega) (hEn E hEm)
      · have h1 := hZ'E i hi
        refine ⟨h1.1, by simp only [St.trunc]; omega, fun F hF2 => ?_⟩
        rcases hsetm F hF2 with h2 | rfl
        · exact h1.2.2 F h2
        · exact oE'' i h1.2.1 (h1.2.2 E hEm)
  · obtain rfl : k = b.ps.length := by omega
    have u1' : ob 1 = some ⟨1, 3, 31, false, true, [.agg [.nil, .nil, .nil]]⟩ := by rw [ho 1 (by omega), u1]
    try simp (maxSteps := 500000) (disch := omega) only [go_sem, jjA, jjB, jjC, jjD, jjE, jjF, jjG, jjH, jjI, jjJ, ↓reduceIte, reduceCtorEq, wrap_id, w_ite_ne, w_ite_lt, jjK, jjL, hq, u1', h8, hX.flat, hX.cells, hX.one]
    have hag : ∀ i, i ≠ 1 → upd ob 1 (some (⟨1, 3, 31, false, true, [.agg [.list 4 (wts b.ps), X, .list 4 (wns b.ac)]]⟩ : AObj)) i = ob i := fun i hi => upd_ne _ _ _ _ hi
    rw [seeV, seeR, see_e0 hv (by omega) hf, if_pos rfl]
    refine Pub.tu (.cons (Pub.ag (.cons (Pub.e rfl) (.cons (pub_slx (M := lls (seeB b now).pa) hX (fun i _ hh => hag i ?_) ?_ (fun i E y hE2 hy => ?_) (lls_ok _)) (.cons (Pub.e rfl) .nil)))) (.cons (hZ.pub (fun i _ hh => hag i ?_) (ints_pur _) (ints_ok _)) (.cons (Pub.e rfl) .nil)))
    · have := (hG.low i hh).1; omega
    · simp [lls, seeB, hEl]
    · have hi := (List.getElem?_eq_some_iff.1 hE2).1
      have h1 : (lls (seeB b now).pa)[i]? = some (.list 1 (ints (pastI b now i))) := by
        simp [lls, seeB, show i < b.ps.length by omega]
      rw [h1] at hy
      obtain rfl := Option.some.inj hy
      refine ((hE i E hE2).2 (by omega)).pub (ints_pur _) (ints_ok _) fun j hj hh o ho2 => ⟨o.ro, ?_⟩
      simp only at ho2 ⊢
      rw [hag j (by have := (hG.loE E (List.mem_of_getElem? hE2) j hh).1; omega), ho2]
    · have := (hZn i hh).1; omega
theorem wt_eq {b c : Wt} : b = c ↔ b.nd = c.nd ∧ b.w = c.w ∧ b.lim = c.lim ∧ b.ld = c.ld := by
  cases b; cases c; simp
theorem cs_eq {b c : Cs} : b = c ↔ b.k = c.k ∧ b.s = c.s := by
  cases b; cases c; simp
def sameW (a b : Wn) : Bool := decide (a.p = b.p) && (decide (a.t = b.t) && (decide (a.cm = b.cm) && decide (a.cs = b.cs)))
theorem sameW_iff {a b : Wn} : sameW a b = true ↔ a = b := by
  cases a; cases b
  simp [sameW]
  intro _ _
  exact and_comm
theorem bo_eq {a b : Bo} : a = b ↔ a.ps = b.ps ∧ a.pa = b.pa ∧ a.ac = b.ac := by
  cases a; cases b; simp
theorem ok_slices_Equal__int (a b : List Int) (ha : a.length ≤ 9223372036854775807) : PC prog n_slices_Equal__int [.list 1 (ints a), .list 1 (ints b)] (.bool (decide (a = b))) := by
  refine PC_of_body b_slices_Equal__int (by simp) ?_
  simp only [c_slices_Equal__int, go_sem, jjA, jjB, jjC, jjD, jjE, jjF, jjG, jjH, jjI, jjJ, ↓reduceIte, reduceCtorEq, w_app_nl, ints_length]
  refine cond_n (fun h => ?_) (fun h => ?_) <;> try simp (maxSteps := 500000) (disch := omega) only [go_sem, jjA, jjB, jjC, jjD, jjE, jjF, jjG, jjH, jjI, jjJ, ↓reduceIte, reduceCtorEq, wrap_id, w_ite_ne, w_ite_lt, jjK, jjL]
  · exact Pub.of_eq (by congr 1; simp; intro hab; exact h (by rw [hab])) rfl
  have hl : a.length = b.length := by omega
  refine awp_upF [4, 5, 13, 14, 15, 16, 17, 18, 19, 20, 21, 22, 23, 24, 25] (by kernel_rfl) a.length (fun k e _ => e 13 = .int .i64 k ∧ ∀ j, j < k → a[j]? = b[j]?) ?_ ?_
  · exact ⟨(by first | ((try simp (maxSteps := 1000000) only [go_sem, jjA, jjB, jjC, jjD, jjE, jjF, jjG, jjH, jjI, jjJ, ↓reduceIte, reduceCtorEq, w_app_nl]); done) | ((try simp (maxSteps := 1000000) only [go_sem, jjA, jjB, jjC, jjD, jjE, jjF, jjG, jjH, jjI, jjJ, ↓reduceIte, reduceCtorEq, w_app_nl]); rfl) | ((try simp (maxSteps := 1000000) (disch := omega) only [go_sem, jjA, jjB, jjC, jjD, jjE, jjF, jjG, jjH, jjI, jjJ, ↓reduceIte, reduceCtorEq, w_app_nl, wrap_id, w_ite_ne, w_ite_lt]); rfl) | (simp (maxSteps := 1000000) (disch := omega) only [go_sem, jjA, jjB, jjC, jjD, jjE, jjF, jjG, jjH, jjI, jjJ, ↓reduceIte, reduceCtorEq, w_app_nl, wrap_id, w_ite_ne, w_ite_lt]; done)), fun j hj => by omega⟩
  · rintro k fe ob c hk ⟨h13, hj⟩
    simp (maxSteps := 1000000) only [go_sem, jjA, jjB, jjC, jjD, jjE, jjF, jjG, jjH, jjI, jjJ, ↓reduceIte, reduceCtorEq, w_app_nl] at h13
    try simp (maxSteps := 500000) (disch := omega) only [go_sem, jjA, jjB, jjC, jjD, jjE, jjF, jjG, jjH, jjI, jjJ, ↓reduceIte, reduceCtorEq, wrap_id, w_ite_ne, w_ite_lt, jjK, jjL, h13, ints_length]
    refine cond_d (fun hlt => ?_) (fun hge => ?_)
    · have hka : k < a.length := by omega
      have hga : a[k]? = some a[k] := List.getElem?_eq_getElem hka
      have hgb : b[k]? = some b[k] := List.getElem?_eq_getElem (by omega)
      try simp (maxSteps := 500000) (disch := omega) only [go_sem, jjA, jjB, jjC, jjD, jjE, jjF, jjG, jjH, jjI, jjJ, ↓reduceIte, reduceCtorEq, wrap_id, w_ite_ne, w_ite_lt, jjK, jjL, h13, ints_length, ints_get, hga, hgb, Option.map_some]
      repeat (refine And.intro (by first | omega | (rw [mxL]; omega) | (simp [maxLen]; done) | (simp [maxLen]; omega)) ?_)
      refine cond_n (fun hne => ?_) (fun heq => ?_)
      · try simp (maxSteps := 500000) (disch := omega) only [go_sem, jjA, jjB, jjC, jjD, jjE, jjF, jjG, jjH, jjI, jjJ, ↓reduceIte, reduceCtorEq, wrap_id, w_ite_ne, w_ite_lt, jjK, jjL]
        exact Pub.of_eq (by congr 1; simp; intro hab; subst hab; exact hne rfl) rfl
      · try simp (maxSteps := 500000) (disch := omega) only [go_sem, jjA, jjB, jjC, jjD, jjE, jjF, jjG, jjH, jjI, jjJ, ↓reduceIte, reduceCtorEq, wrap_id, w_ite_ne, w_ite_lt, jjK, jjL, h13]
        refine up_next hka ⟨(by first | ((try simp (maxSteps := 1000000) only [go_sem, jjA, jjB, jjC, jjD, jjE, jjF, jjG, jjH, jjI, jjJ, ↓reduceIte, reduceCtorEq, w_app_nl]); done) | ((try simp (maxSteps := 1000000) only [go_sem, jjA, jjB, jjC, jjD, jjE, jjF, jjG, jjH, jjI, jjJ, ↓reduceIte, reduceCtorEq, w_app_nl]); rfl) | ((try simp (maxSteps := 1000000) (disch := omega) only [go_sem, jjA, jjB, jjC, jjD, jjE, jjF, jjG, jjH, jjI, jjJ, ↓reduceIte, reduceCtorEq, w_app_nl, wrap_id, w_ite_ne, w_ite_lt]); rfl) | (simp (maxSteps := 1000000) (disch := omega) only [go_sem, jjA, jjB, jjC, jjD, jjE, jjF, jjG, jjH, jjI, jjJ, ↓reduceIte, reduceCtorEq, w_app_nl, wrap_id, w_ite_ne, w_ite_lt]; done)), fun j hj' => ?_⟩
        by_cases e : j = k
        · have he : a[k] = b[k] := heq
          subst e; rw [hga, hgb, he]
        · exact hj j (by omega)
    · try simp (maxSteps := 500000) (disch := omega) only [go_sem, jjA, jjB, jjC, jjD, jjE, jjF, jjG, jjH, jjI, jjJ, ↓reduceIte, reduceCtorEq, wrap_id, w_ite_ne, w_ite_lt, jjK, jjL]
      exact Pub.of_eq (by congr 1; simp; exact eq_of_get hl fun j hj' => hj j (by omega)) rfl
theorem ok_ref36_Ints (a b : List Int) (ha : a.length ≤ 9223372036854775807) : PC prog n_ref36_Ints [.list 1 (ints a), .list 1 (ints b)] (.bool (decide (a = b))) := by
  refine PC_of_body b_ref36_Ints (by simp) ?_
  simp only [c_ref36_Ints, go_sem, jjA, jjB, jjC, jjD, jjE, jjF, jjG, jjH, jjI, jjJ, ↓reduceIte, reduceCtorEq, w_app_nl, ints_length]
  refine cond_n (fun h => ?_) (fun h => ?_) <;> try simp (maxSteps := 500000) (disch := omega) only [go_sem, jjA, jjB, jjC, jjD, jjE, jjF, jjG, jjH, jjI, jjJ, ↓reduceIte, reduceCtorEq, wrap_id, w_ite_ne, w_ite_lt, jjK, jjL]
  · exact Pub.of_eq (by congr 1; simp; intro hab; exact h (by rw [hab])) rfl
  have hl : a.length = b.length := by omega
  refine awp_upF [4, 5, 13, 14, 15, 16, 17, 18, 19, 20, 21, 22, 23, 24, 25] (by kernel_rfl) a.length (fun k e _ => e 13 = .int .i64 k ∧ ∀ j, j < k → a[j]? = b[j]?) ?_ ?_
  · exact ⟨(by first | ((try simp (maxSteps := 1000000) only [go_sem, jjA, jjB, jjC, jjD, jjE, jjF, jjG, jjH, jjI, jjJ, ↓reduceIte, reduceCtorEq, w_app_nl]); done) | ((try simp (maxSteps := 1000000) only [go_sem, jjA, jjB, jjC, jjD, jjE, jjF, jjG, jjH, jjI, jjJ, ↓reduceIte, reduceCtorEq, w_app_nl]); rfl) | ((try simp (maxSteps := 1000000) (disch := omega) only [go_sem, jjA, jjB, jjC, jjD, jjE, jjF, jjG, jjH, jjI, jjJ, ↓reduceIte, reduceCtorEq, w_app_nl, wrap_id, w_ite_ne, w_ite_lt]); rfl) | (simp (maxSteps := 1000000) (disch := omega) only [go_sem, jjA, jjB, jjC, jjD, jjE, jjF, jjG, jjH, jjI, jjJ, ↓reduceIte, reduceCtorEq, w_app_nl, wrap_id, w_ite_ne, w_ite_lt]; done)), fun j hj => by omega⟩
  · rintro k fe ob c hk ⟨h13, hj⟩
    simp (maxSteps := 1000000) only [go_sem, jjA, jjB, jjC, jjD, jjE, jjF, jjG, jjH, jjI, jjJ, ↓reduceIte, reduceCtorEq, w_app_nl] at h13
    try simp (maxSteps := 500000) (disch := omega) only [go_sem, jjA, jjB, jjC, jjD, jjE, jjF, jjG, jjH, jjI, jjJ, ↓reduceIte, reduceCtorEq, wrap_id, w_ite_ne, w_ite_lt, jjK, jjL, h13, ints_length]
    refine cond_d (fun hlt => ?_) (fun hge => ?_)
    · have hka : k < a.length := by omega
      have hga : a[k]? = some a[k] := List.getElem?_eq_getElem hka
      have hgb : b[k]? = some b[k] := List.getElem?_eq_getElem (by omega)
      try simp (maxSteps := 500000) (disch := omega) only [go_sem, jjA, jjB, jjC, jjD, jjE, jjF, jjG, jjH, jjI, jjJ, ↓reduceIte, reduceCtorEq, wrap_id, w_ite_ne, w_ite_lt, jjK, jjL, h13, ints_length, ints_get, hga, hgb, Option.map_some]
      repeat (refine And.intro (by first | omega | (rw [mxL]; omega) | (simp [maxLen]; done) | (simp [maxLen]; omega)) ?_)
      refine cond_n (fun hne => ?_) (fun heq => ?_)
      · try simp (maxSteps := 500000) (disch := omega) only [go_sem, jjA, jjB, jjC, jjD, jjE, jjF, jjG, jjH, jjI, jjJ, ↓reduceIte, reduceCtorEq, wrap_id, w_ite_ne, w_ite_lt, jjK, jjL]
        exact Pub.of_eq (by congr 1; simp; intro hab; subst hab; exact hne rfl) rfl
      · try simp (maxSteps := 500000) (disch := omega) only [go_sem, jjA, jjB, jjC, jjD, jjE, jjF, jjG, jjH, jjI, jjJ, ↓reduceIte, reduceCtorEq, wrap_id, w_ite_ne, w_ite_lt, jjK, jjL, h13]
        refine up_next hka ⟨(by first | ((try simp (maxSteps := 1000000) only [go_sem, jjA, jjB, jjC, jjD, jjE, jjF, jjG, jjH, jjI, jjJ, ↓reduceIte, reduceCtorEq, w_app_nl]); done) | ((try simp (maxSteps := 1000000) only [go_sem, jjA, jjB, jjC, jjD, jjE, jjF, jjG, jjH, jjI, jjJ, ↓reduceIte, reduceCtorEq, w_app_nl]); rfl) | ((try simp (maxSteps := 1000000) (disch := omega) only [go_sem, jjA, jjB, jjC, jjD, jjE, jjF, jjG, jjH, jjI, jjJ, ↓reduceIte, reduceCtorEq, w_app_nl, wrap_id, w_ite_ne, w_ite_lt]); rfl) | (simp (maxSteps := 1000000) (disch := omega) only [go_sem, jjA, jjB, jjC, jjD, jjE, jjF, jjG, jjH, jjI, jjJ, ↓reduceIte, reduceCtorEq, w_app_nl, wrap_id, w_ite_ne, w_ite_lt]; done)), fun j hj' => ?_⟩
        by_cases e : j = k
        · have he : a[k] = b[k] := heq
          subst e; rw [hga, hgb, he]
        · exact hj j (by omega)
    · try simp (maxSteps := 500000) (disch := omega) only [go_sem, jjA, jjB, jjC, jjD, jjE, jjF, jjG, jjH, jjI, jjJ, ↓reduceIte, reduceCtorEq, wrap_id, w_ite_ne, w_ite_lt, jjK, jjL]
      exact Pub.of_eq (by congr 1; simp; exact eq_of_get hl fun j hj' => hj j (by omega)) rfl
theorem ok_law36_ints (a b : List Int) (ha : a.length ≤ 9223372036854775807) : PC prog n_law36_ints [.list 1 (ints a), .list 1 (ints b)] (.bool (decide (a = b))) := by
  refine PC_of_body b_law36_ints (by simp) ?_
  simp only [c_law36_ints, go_sem, jjA, jjB, jjC, jjD, jjE, jjF, jjG, jjH, jjI, jjJ, ↓reduceIte, reduceCtorEq, w_app_nl, ints_length]
  refine cond_n (fun h => ?_) (fun h => ?_) <;> try simp (maxSteps := 500000) (disch := omega) only [go_sem, jjA, jjB, jjC, jjD, jjE, jjF, jjG, jjH, jjI, jjJ, ↓reduceIte, reduceCtorEq, wrap_id, w_ite_ne, w_ite_lt, jjK, jjL]
  · exact Pub.of_eq (by congr 1; simp; intro hab; exact h (by rw [hab])) rfl
  have hl : a.length = b.length := by omega
  refine awp_upF [4, 5, 13, 14, 15, 16, 17, 18, 19, 20, 21, 22, 23, 24, 25] (by kernel_rfl) a.length (fun k e _ => e 13 = .int .i64 k ∧ ∀ j, j < k → a[j]? = b[j]?) ?_ ?_
  · exact ⟨(by first | ((try simp (maxSteps := 1000000) only [go_sem, jjA, jjB, jjC, jjD, jjE, jjF, jjG, jjH, jjI, jjJ, ↓reduceIte, reduceCtorEq, w_app_nl]); done) | ((try simp (maxSteps := 1000000) only [go_sem, jjA, jjB, jjC, jjD, jjE, jjF, jjG, jjH, jjI, jjJ, ↓reduceIte, reduceCtorEq, w_app_nl]); rfl) | ((try simp (maxSteps := 1000000) (disch := omega) only [go_sem, jjA, jjB, jjC, jjD, jjE, jjF, jjG, jjH, jjI, jjJ, ↓reduceIte, reduceCtorEq, w_app_nl, wrap_id, w_ite_ne, w_ite_lt]); rfl) | (simp (maxSteps := 1000000) (disch := omega) only [go_sem, jjA, jjB, jjC, jjD, jjE, jjF, jjG, jjH, jjI, jjJ, ↓reduceIte, reduceCtorEq, w_app_nl, wrap_id, w_ite_ne, w_ite_lt]; done)), fun j hj => by omega⟩
  · rintro k fe ob c hk ⟨h13, hj⟩
    simp (maxSteps := 1000000) only [go_sem, jjA, jjB, jjC, jjD, jjE, jjF, jjG, jjH, jjI, jjJ, ↓reduceIte, reduceCtorEq, w_app_nl] at h13
    try simp (maxSteps := 500000) (disch := omega) only [go_sem, jjA, jjB, jjC, jjD, jjE, jjF, jjG, jjH, jjI, jjJ, ↓reduceIte, reduceCtorEq, wrap_id, w_ite_ne, w_ite_lt, jjK, jjL, h13, ints_length]
    refine cond_d (fun hlt => ?_) (fun hge => ?_)
    · have hka : k < a.length := by omega
      have hga : a[k]? = some a[k] := List.getElem?_eq_getElem hka
      have hgb : b[k]? = some b[k] := List.getElem?_eq_getElem (by omega)
      try simp (maxSteps := 500000) (disch := omega) only [go_sem, jjA, jjB, jjC, jjD, jjE, jjF, jjG, jjH, jjI, jjJ, ↓reduceIte, reduceCtorEq, wrap_id, w_ite_ne, w_ite_lt, jjK, jjL, h13, ints_length, ints_get, hga, hgb, Option.map_some]
      repeat (refine And.intro (by first | omega | (rw [mxL]; omega) | (simp [maxLen]; done) | (simp [maxLen]; omega)) ?_)
      refine cond_n (fun hne => ?_) (fun heq => ?_)
      · try simp (maxSteps := 500000) (disch := omega) only [go_sem, jjA, jjB, jjC, jjD, jjE, jjF, jjG, jjH, jjI, jjJ, ↓reduceIte, reduceCtorEq, wrap_id, w_ite_ne, w_ite_lt, jjK, jjL]
        exact Pub.of_eq (by congr 1; simp; intro hab; subst hab; exact hne rfl) rfl
      · try simp (maxSteps := 500000) (disch := omega) only [go_sem, jjA, jjB, jjC, jjD, jjE, jjF, jjG, jjH, jjI, jjJ, ↓reduceIte, reduceCtorEq, wrap_id, w_ite_ne, w_ite_lt, jjK, jjL, h13]
        refine up_next hka ⟨(by first | ((try simp (maxSteps := 1000000) only [go_sem, jjA, jjB, jjC, jjD, jjE, jjF, jjG, jjH, jjI, jjJ, ↓reduceIte, reduceCtorEq, w_app_nl]); done) | ((try simp (maxSteps := 1000000) only [go_sem, jjA, jjB, jjC, jjD, jjE, jjF, jjG, jjH, jjI, jjJ, ↓reduceIte, reduceCtorEq, w_app_nl]); rfl) | ((try simp (maxSteps := 1000000) (disch := omega) only [go_sem, jjA, jjB, jjC, jjD, jjE, jjF, jjG, jjH, jjI, jjJ, ↓reduceIte, reduceCtorEq, w_app_nl, wrap_id, w_ite_ne, w_ite_lt]); rfl) | (simp (maxSteps := 1000000) (disch := omega) only [go_sem, jjA, jjB, jjC, jjD, jjE, jjF, jjG, jjH, jjI, jjJ, ↓reduceIte, reduceCtorEq, w_app_nl, wrap_id, w_ite_ne, w_ite_lt]; done)), fun j hj' => ?_⟩
        by_cases e : j = k
        · have he : a[k] = b[k] := heq
          subst e; rw [hga, hgb, he]
        · exact hj j (by omega)
    · try simp (maxSteps := 500000) (disch := omega) only [go_sem, jjA, jjB, jjC, jjD, jjE, jjF, jjG, jjH, jjI, jjJ, ↓reduceIte, reduceCtorEq, wrap_id, w_ite_ne, w_ite_lt, jjK, jjL]
      exact Pub.of_eq (by congr 1; simp; exact eq_of_get hl fun j hj' => hj j (by omega)) rfl
theorem ok_slices_Equal__Cause (a b : List Cs) (ha : a.length ≤ 9223372036854775807) : PC prog n_slices_Equal__Cause [.list 2 (css a), .list 2 (css b)] (.bool (decide (a = b))) := by
  refine PC_of_body b_slices_Equal__Cause (by simp) ?_
  simp only [c_slices_Equal__Cause, go_sem, jjA, jjB, jjC, jjD, jjE, jjF, jjG, jjH, jjI, jjJ, ↓reduceIte, reduceCtorEq, w_app_nl, css_length]
  refine cond_n (fun h => ?_) (fun h => ?_) <;> try simp (maxSteps := 500000) (disch := omega) only [go_sem, jjA, jjB, jjC, jjD, jjE, jjF, jjG, jjH, jjI, jjJ, ↓reduceIte, reduceCtorEq, wrap_id, w_ite_ne, w_ite_lt, jjK, jjL]
  · exact Pub.of_eq (by congr 1; simp; intro hab; exact h (by rw [hab])) rfl
  have hl : a.length = b.length := by omega
  refine awp_upF [4, 5, 13, 14, 15, 16, 17, 18, 19, 20, 21, 22, 23, 24, 25] (by kernel_rfl) a.length (fun k e _ => e 13 = .int .i64 k ∧ ∀ j, j < k → a[j]? = b[j]?) ?_ ?_
  · exact ⟨(by first | ((try simp (maxSteps := 1000000) only [go_sem, jjA, jjB, jjC, jjD, jjE, jjF, jjG, jjH, jjI, jjJ, ↓reduceIte, reduceCtorEq, w_app_nl]); done) | ((try simp (maxSteps := 1000000) only [go_sem, jjA, jjB, jjC, jjD, jjE, jjF, jjG, jjH, jjI, jjJ, ↓reduceIte, reduceCtorEq, w_app_nl]); rfl) | ((try simp (maxSteps := 1000000) (disch := omega) only [go_sem, jjA, jjB, jjC, jjD, jjE, jjF, jjG, jjH, jjI, jjJ, ↓reduceIte, reduceCtorEq, w_app_nl, wrap_id, w_ite_ne, w_ite_lt]); rfl) | (simp (maxSteps := 1000000) (disch := omega) only [go_sem, jjA, jjB, jjC, jjD, jjE, jjF, jjG, jjH, jjI, jjJ, ↓reduceIte, reduceCtorEq, w_app_nl, wrap_id, w_ite_ne, w_ite_lt]; done)), fun j hj => by omega⟩
  · rintro k fe ob c hk ⟨h13, hj⟩
    simp (maxSteps := 1000000) only [go_sem, jjA, jjB, jjC, jjD, jjE, jjF, jjG, jjH, jjI, jjJ, ↓reduceIte, reduceCtorEq, w_app_nl] at h13
    try simp (maxSteps := 500000) (disch := omega) only [go_sem, jjA, jjB, jjC, jjD, jjE, jjF, jjG, jjH, jjI, jjJ, ↓reduceIte, reduceCtorEq, wrap_id, w_ite_ne, w_ite_lt, jjK, jjL, h13, css_length]
    refine cond_d (fun hlt => ?_) (fun hge => ?_)
    · have hka : k < a.length := by omega
      have hga : a[k]? = some a[k] := List.getElem?_eq_getElem hka
      have hgb : b[k]? = some b[k] := List.getElem?_eq_getElem (by omega)
      try simp (maxSteps := 500000) (disch := omega) only [go_sem, jjA, jjB, jjC, jjD, jjE, jjF, jjG, jjH, jjI, jjJ, ↓reduceIte, reduceCtorEq, wrap_id, w_ite_ne, w_ite_lt, jjK, jjL, h13, css_length, css_get, hga, hgb, Option.map_some, csv]
      repeat (refine And.intro (by first | omega | (rw [mxL]; omega) | (simp [maxLen]; done) | (simp [maxLen]; omega)) ?_)
      refine ⟨fun hne => ?_, fun heq => ?_⟩
      · try simp (maxSteps := 500000) (disch := omega) only [go_sem, jjA, jjB, jjC, jjD, jjE, jjF, jjG, jjH, jjI, jjJ, ↓reduceIte, reduceCtorEq, wrap_id, w_ite_ne, w_ite_lt, jjK, jjL]
        exact Pub.of_eq (by congr 1; simp; intro hab; subst hab; simp at hne) rfl
      · try simp (maxSteps := 500000) (disch := omega) only [go_sem, jjA, jjB, jjC, jjD, jjE, jjF, jjG, jjH, jjI, jjJ, ↓reduceIte, reduceCtorEq, wrap_id, w_ite_ne, w_ite_lt, jjK, jjL, h13]
        refine up_next hka ⟨(by first | ((try simp (maxSteps := 1000000) only [go_sem, jjA, jjB, jjC, jjD, jjE, jjF, jjG, jjH, jjI, jjJ, ↓reduceIte, reduceCtorEq, w_app_nl]); done) | ((try simp (maxSteps := 1000000) only [go_sem, jjA, jjB, jjC, jjD, jjE, jjF, jjG, jjH, jjI, jjJ, ↓reduceIte, reduceCtorEq, w_app_nl]); rfl) | ((try simp (maxSteps := 1000000) (disch := omega) only [go_sem, jjA, jjB, jjC, jjD, jjE, jjF, jjG, jjH, jjI, jjJ, ↓reduceIte, reduceCtorEq, w_app_nl, wrap_id, w_ite_ne, w_ite_lt]); rfl) | (simp (maxSteps := 1000000) (disch := omega) only [go_sem, jjA, jjB, jjC, jjD, jjE, jjF, jjG, jjH, jjI, jjJ, ↓reduceIte, reduceCtorEq, w_app_nl, wrap_id, w_ite_ne, w_ite_lt]; done)), fun j hj' => ?_⟩
        by_cases e : j = k
        · have he : a[k] = b[k] := cs_eq.2 (by simpa using heq)
          subst e; rw [hga, hgb, he]
        · exact hj j (by omega)
    · try simp (maxSteps := 500000) (disch := omega) only [go_sem, jjA, jjB, jjC, jjD, jjE, jjF, jjG, jjH, jjI, jjJ, ↓reduceIte, reduceCtorEq, wrap_id, w_ite_ne, w_ite_lt, jjK, jjL]
      exact Pub.of_eq (by congr 1; simp; exact eq_of_get hl fun j hj' => hj j (by omega)) rfl
theorem ok_ref36_SameCauses (a b : List Cs) (ha : a.length ≤ 9223372036854775807) : PC prog n_ref36_SameCauses [.list 2 (css a), .list 2 (css b)] (.bool (decide (a = b))) := by
  refine PC_of_body b_ref36_SameCauses (by simp) ?_
  simp only [c_ref36_SameCauses, go_sem, jjA, jjB, jjC, jjD, jjE, jjF, jjG, jjH, jjI, jjJ, ↓reduceIte, reduceCtorEq, w_app_nl, css_length]
  refine cond_n (fun h => ?_) (fun h => ?_) <;> try simp (maxSteps := 500000) (disch := omega) only [go_sem, jjA, jjB, jjC, jjD, jjE, jjF, jjG, jjH, jjI, jjJ, ↓reduceIte, reduceCtorEq, wrap_id, w_ite_ne, w_ite_lt, jjK, jjL]
  · exact Pub.of_eq (by congr 1; simp; intro hab; exact h (by rw [hab])) rfl
  have hl : a.length = b.length := by omega
  refine awp_upF [4, 5, 13, 14, 15, 16, 17, 18, 19, 20, 21, 22, 23, 24, 25] (by kernel_rfl) a.length (fun k e _ => e 13 = .int .i64 k ∧ ∀ j, j < k → a[j]? = b[j]?) ?_ ?_
  · exact ⟨(by first | ((try simp (maxSteps := 1000000) only [go_sem, jjA, jjB, jjC, jjD, jjE, jjF, jjG, jjH, jjI, jjJ, ↓reduceIte, reduceCtorEq, w_app_nl]); done) | ((try simp (maxSteps := 1000000) only [go_sem, jjA, jjB, jjC, jjD, jjE, jjF, jjG, jjH, jjI, jjJ, ↓reduceIte, reduceCtorEq, w_app_nl]); rfl) | ((try simp (maxSteps := 1000000) (disch := omega) only [go_sem, jjA, jjB, jjC, jjD, jjE, jjF, jjG, jjH, jjI, jjJ, ↓reduceIte, reduceCtorEq, w_app_nl, wrap_id, w_ite_ne, w_ite_lt]); rfl) | (simp (maxSteps := 1000000) (disch := omega) only [go_sem, jjA, jjB, jjC, jjD, jjE, jjF, jjG, jjH, jjI, jjJ, ↓reduceIte, reduceCtorEq, w_app_nl, wrap_id, w_ite_ne, w_ite_lt]; done)), fun j hj => by omega⟩
  · rintro k fe ob c hk ⟨h13, hj⟩
    simp (maxSteps := 1000000) only [go_sem, jjA, jjB, jjC, jjD, jjE, jjF, jjG, jjH, jjI, jjJ, ↓reduceIte, reduceCtorEq, w_app_nl] at h13
    try simp (maxSteps := 500000) (disch := omega) only [go_sem, jjA, jjB, jjC, jjD, jjE, jjF, jjG, jjH, jjI, jjJ, ↓reduceIte, reduceCtorEq, wrap_id, w_ite_ne, w_ite_lt, jjK, jjL, h13, css_length]
    refine cond_d (fun hlt => ?_) (fun hge => ?_)
    · have hka : k < a.length := by omega
      have hga : a[k]? = some a[k] := List.getElem?_eq_getElem hka
      have hgb : b[k]? = some b[k] := List.getElem?_eq_getElem (by omega)
      try simp (maxSteps := 500000) (disch := omega) only [go_sem, jjA, jjB, jjC, jjD, jjE, jjF, jjG, jjH, jjI, jjJ, ↓reduceIte, reduceCtorEq, wrap_id, w_ite_ne, w_ite_lt, jjK, jjL, h13, css_length, css_get, hga, hgb, Option.map_some, csv]
      repeat (refine And.intro (by first | omega | (rw [mxL]; omega) | (simp [maxLen]; done) | (simp [maxLen]; omega)) ?_)
      refine ⟨fun hne => ?_, fun heq => ?_⟩
      · try simp (maxSteps := 500000) (disch := omega) only [go_sem, jjA, jjB, jjC, jjD, jjE, jjF, jjG, jjH, jjI, jjJ, ↓reduceIte, reduceCtorEq, wrap_id, w_ite_ne, w_ite_lt, jjK, jjL]
        exact Pub.of_eq (by congr 1; simp; intro hab; subst hab; simp at hne) rfl
      · try simp (maxSteps := 500000) (disch := omega) only [go_sem, jjA, jjB, jjC, jjD, jjE, jjF, jjG, jjH, jjI, jjJ, ↓reduceIte, reduceCtorEq, wrap_id, w_ite_ne, w_ite_lt, jjK, jjL, h13]
        refine up_next hka ⟨(by first | ((try simp (maxSteps := 1000000) only [go_sem, jjA, jjB, jjC, jjD, jjE, jjF, jjG, jjH, jjI, jjJ, ↓reduceIte, reduceCtorEq, w_app_nl]); done) | ((try simp (maxSteps := 1000000) only [go_sem, jjA, jjB, jjC, jjD, jjE, jjF, jjG, jjH, jjI, jjJ, ↓reduceIte, reduceCtorEq, w_app_nl]); rfl) | ((try simp (maxSteps := 1000000) (disch := omega) only [go_sem, jjA, jjB, jjC, jjD, jjE, jjF, jjG, jjH, jjI, jjJ, ↓reduceIte, reduceCtorEq, w_app_nl, wrap_id, w_ite_ne, w_ite_lt]); rfl) | (simp (maxSteps := 1000000) (disch := omega) only [go_sem, jjA, jjB, jjC, jjD, jjE, jjF, jjG, jjH, jjI, jjJ, ↓reduceIte, reduceCtorEq, w_app_nl, wrap_id, w_ite_ne, w_ite_lt]; done)), fun j hj' => ?_⟩
        by_cases e : j = k
        · have he : a[k] = b[k] := cs_eq.2 (by simpa using heq)
          subst e; rw [hga, hgb, he]
        · exact hj j (by omega)
    · try simp (maxSteps := 500000) (disch := omega) only [go_sem, jjA, jjB, jjC, jjD, jjE, jjF, jjG, jjH, jjI, jjJ, ↓reduceIte, reduceCtorEq, wrap_id, w_ite_ne, w_ite_lt, jjK, jjL]
      exact Pub.of_eq (by congr 1; simp; exact eq_of_get hl fun j hj' => hj j (by omega)) rfl
theorem ok_slices_Equal__Watch (a b : List Wt) (ha : a.length ≤ 9223372036854775807) : PC prog n_slices_Equal__Watch [.list 4 (wts a), .list 4 (wts b)] (.bool (decide (a = b))) := by
  refine PC_of_body b_slices_Equal__Watch (by simp) ?_
  simp only [c_slices_Equal__Watch, go_sem, jjA, jjB, jjC, jjD, jjE, jjF, jjG, jjH, jjI, jjJ, ↓reduceIte, reduceCtorEq, w_app_nl, wts_length]
  refine cond_n (fun h => ?_) (fun h => ?_) <;> try simp (maxSteps := 500000) (disch := omega) only [go_sem, jjA, jjB, jjC, jjD, jjE, jjF, jjG, jjH, jjI, jjJ, ↓reduceIte, reduceCtorEq, wrap_id, w_ite_ne, w_ite_lt, jjK, jjL]
  · exact Pub.of_eq (by congr 1; simp; intro hab; exact h (by rw [hab])) rfl
  have hl : a.length = b.length := by omega
  refine awp_upF [4, 5, 13, 14, 15, 16, 17, 18, 19, 20, 21, 22, 23, 24, 25] (by kernel_rfl) a.length (fun k e _ => e 13 = .int .i64 k ∧ ∀ j, j < k → a[j]? = b[j]?) ?_ ?_
  · exact ⟨(by first | ((try simp (maxSteps := 1000000) only [go_sem, jjA, jjB, jjC, jjD, jjE, jjF, jjG, jjH, jjI, jjJ, ↓reduceIte, reduceCtorEq, w_app_nl]); done) | ((try simp (maxSteps := 1000000) only [go_sem, jjA, jjB, jjC, jjD, jjE, jjF, jjG, jjH, jjI, jjJ, ↓reduceIte, reduceCtorEq, w_app_nl]); rfl) | ((try simp (maxSteps := 1000000) (disch := omega) only [go_sem, jjA, jjB, jjC, jjD, jjE, jjF, jjG, jjH, jjI, jjJ, ↓reduceIte, reduceCtorEq, w_app_nl, wrap_id, w_ite_ne, w_ite_lt]); rfl) | (simp (maxSteps := 1000000) (disch := omega) only [go_sem, jjA, jjB, jjC, jjD, jjE, jjF, jjG, jjH, jjI, jjJ, ↓reduceIte, reduceCtorEq, w_app_nl, wrap_id, w_ite_ne, w_ite_lt]; done)), fun j hj => by omega⟩
  · rintro k fe ob c hk ⟨h13, hj⟩
    simp (maxSteps := 1000000) only [go_sem, jjA, jjB, jjC, jjD, jjE, jjF, jjG, jjH, jjI, jjJ, ↓reduceIte, reduceCtorEq, w_app_nl] at h13
    try simp (maxSteps := 500000) (disch := omega) only [go_sem, jjA, jjB, jjC, jjD, jjE, jjF, jjG, jjH, jjI, jjJ, ↓reduceIte, reduceCtorEq, wrap_id, w_ite_ne, w_ite_lt, jjK, jjL, h13, wts_length]
    refine cond_d (fun hlt => ?_) (fun hge => ?_)
    · have hka : k < a.length := by omega
      have hga : a[k]? = some a[k] := List.getElem?_eq_getElem hka
      have hgb : b[k]? = some b[k] := List.getElem?_eq_getElem (by omega)
      try simp (maxSteps := 500000) (disch := omega) only [go_sem, jjA, jjB, jjC, jjD, jjE, jjF, jjG, jjH, jjI, jjJ, ↓reduceIte, reduceCtorEq, wrap_id, w_ite_ne, w_ite_lt, jjK, jjL, h13, wts_length, wts_get, hga, hgb, Option.map_some, wtv]
      repeat (refine And.intro (by first | omega | (rw [mxL]; omega) | (simp [maxLen]; done) | (simp [maxLen]; omega)) ?_)
      refine ⟨fun hne => ?_, fun heq => ?_⟩
      · try simp (maxSteps := 500000) (disch := omega) only [go_sem, jjA, jjB, jjC, jjD, jjE, jjF, jjG, jjH, jjI, jjJ, ↓reduceIte, reduceCtorEq, wrap_id, w_ite_ne, w_ite_lt, jjK, jjL]
        exact Pub.of_eq (by congr 1; simp; intro hab; subst hab; simp at hne) rfl
      · try simp (maxSteps := 500000) (disch := omega) only [go_sem, jjA, jjB, jjC, jjD, jjE, jjF, jjG, jjH, jjI, jjJ, ↓reduceIte, reduceCtorEq, wrap_id, w_ite_ne, w_ite_lt, jjK, jjL, h13]
        refine up_next hka ⟨(by first | ((try simp (maxSteps := 1000000) only [go_sem, jjA, jjB, jjC, jjD, jjE, jjF, jjG, jjH, jjI, jjJ, ↓reduceIte, reduceCtorEq, w_app_nl]); done) | ((try simp (maxSteps := 1000000) only [go_sem, jjA, jjB, jjC, jjD, jjE, jjF, jjG, jjH, jjI, jjJ, ↓reduceIte, reduceCtorEq, w_app_nl]); rfl) | ((try simp (maxSteps := 1000000) (disch := omega) only [go_sem, jjA, jjB, jjC, jjD, jjE, jjF, jjG, jjH, jjI, jjJ, ↓reduceIte, reduceCtorEq, w_app_nl, wrap_id, w_ite_ne, w_ite_lt]); rfl) | (simp (maxSteps := 1000000) (disch := omega) only [go_sem, jjA, jjB, jjC, jjD, jjE, jjF, jjG, jjH, jjI, jjJ, ↓reduceIte, reduceCtorEq, w_app_nl, wrap_id, w_ite_ne, w_ite_lt]; done)), fun j hj' => ?_⟩
        by_cases e : j = k
        · have he : a[k] = b[k] := wt_eq.2 (by simpa using heq)
          subst e; rw [hga, hgb, he]
        · exact hj j (by omega)
    · try simp (maxSteps := 500000) (disch := omega) only [go_sem, jjA, jjB, jjC, jjD, jjE, jjF, jjG, jjH, jjI, jjJ, ↓reduceIte, reduceCtorEq, wrap_id, w_ite_ne, w_ite_lt, jjK, jjL]
      exact Pub.of_eq (by congr 1; simp; exact eq_of_get hl fun j hj' => hj j (by omega)) rfl
theorem ok_ref36_SameWarning (a b : Wn) (hl : a.cs.length ≤ 9223372036854775807) : PC prog n_ref36_SameWarning [wnv a, wnv b] (.bool (sameW a b)) := by
  refine PC_of_body b_ref36_SameWarning (by simp) ?_
  simp only [c_ref36_SameWarning, go_sem, jjA, jjB, jjC, jjD, jjE, jjF, jjG, jjH, jjI, jjJ, ↓reduceIte, reduceCtorEq, w_app_nl, wnv]
  refine gd_td rfl (fun h1 => ?_) (fun h1 => ?_) <;> try simp (maxSteps := 500000) (disch := omega) only [go_sem, jjA, jjB, jjC, jjD, jjE, jjF, jjG, jjH, jjI, jjJ, ↓reduceIte, reduceCtorEq, wrap_id, w_ite_ne, w_ite_lt, jjK, jjL]
  · refine gd_td rfl (fun h2 => ?_) (fun h2 => ?_) <;> try simp (maxSteps := 500000) (disch := omega) only [go_sem, jjA, jjB, jjC, jjD, jjE, jjF, jjG, jjH, jjI, jjJ, ↓reduceIte, reduceCtorEq, wrap_id, w_ite_ne, w_ite_lt, jjK, jjL]
    · refine gd_td rfl (fun h3 => ?_) (fun h3 => ?_) <;> try simp (maxSteps := 500000) (disch := omega) only [go_sem, jjA, jjB, jjC, jjD, jjE, jjF, jjG, jjH, jjI, jjJ, ↓reduceIte, reduceCtorEq, wrap_id, w_ite_ne, w_ite_lt, jjK, jjL]
      · refine call_pc (ok_ref36_SameCauses a.cs b.cs hl) (by simp [go_sem, css_pur]) ?_
        try simp (maxSteps := 500000) (disch := omega) only [go_sem, jjA, jjB, jjC, jjD, jjE, jjF, jjG, jjH, jjI, jjJ, ↓reduceIte, reduceCtorEq, wrap_id, w_ite_ne, w_ite_lt, jjK, jjL]
        exact Pub.of_eq (by simp [sameW, h1, h2, h3]) rfl
      · exact Pub.of_eq (by simp [sameW, h3]) rfl
    · exact Pub.of_eq (by simp [sameW, h2]) rfl
  · exact Pub.of_eq (by simp [sameW, h1]) rfl
theorem ok_warning_alike (a b : Wn) (hl : a.cs.length ≤ 9223372036854775807) : PC prog n_warning_alike [wnv a, wnv b] (.bool (sameW a b)) := by
  refine PC_of_body b_warning_alike (by simp) ?_
  simp only [c_warning_alike, go_sem, jjA, jjB, jjC, jjD, jjE, jjF, jjG, jjH, jjI, jjJ, ↓reduceIte, reduceCtorEq, w_app_nl, wnv]
  refine gd_td rfl (fun h1 => ?_) (fun h1 => ?_) <;> try simp (maxSteps := 500000) (disch := omega) only [go_sem, jjA, jjB, jjC, jjD, jjE, jjF, jjG, jjH, jjI, jjJ, ↓reduceIte, reduceCtorEq, wrap_id, w_ite_ne, w_ite_lt, jjK, jjL]
  · refine gd_td rfl (fun h2 => ?_) (fun h2 => ?_) <;> try simp (maxSteps := 500000) (disch := omega) only [go_sem, jjA, jjB, jjC, jjD, jjE, jjF, jjG, jjH, jjI, jjJ, ↓reduceIte, reduceCtorEq, wrap_id, w_ite_ne, w_ite_lt, jjK, jjL]
    · refine gd_td rfl (fun h3 => ?_) (fun h3 => ?_) <;> try simp (maxSteps := 500000) (disch := omega) only [go_sem, jjA, jjB, jjC, jjD, jjE, jjF, jjG, jjH, jjI, jjJ, ↓reduceIte, reduceCtorEq, wrap_id, w_ite_ne, w_ite_lt, jjK, jjL]
      · refine call_pc (ok_slices_Equal__Cause a.cs b.cs hl) (by simp [go_sem, css_pur]) ?_
        try simp (maxSteps := 500000) (disch := omega) only [go_sem, jjA, jjB, jjC, jjD, jjE, jjF, jjG, jjH, jjI, jjJ, ↓reduceIte, reduceCtorEq, wrap_id, w_ite_ne, w_ite_lt, jjK, jjL]
        exact Pub.of_eq (by simp [sameW, h1, h2, h3]) rfl
      · exact Pub.of_eq (by simp [sameW, h3]) rfl
    · exact Pub.of_eq (by simp [sameW, h2]) rfl
  · exact Pub.of_eq (by simp [sameW, h1]) rfl
theorem ok_slices_EqualFunc__int (a b : List (List Int)) (ha : a.length ≤ 9223372036854775807) (hx : ∀ x ∈ a, x.length ≤ 9223372036854775807) : PC prog n_slices_EqualFunc__int [.list 1 (lls a), .list 1 (lls b), .func n_slices_Equal__int []] (.bool (decide (a = b))) := by
  refine PC_of_body b_slices_EqualFunc__int (by simp) ?_
  simp only [c_slices_EqualFunc__int, go_sem, jjA, jjB, jjC, jjD, jjE, jjF, jjG, jjH, jjI, jjJ, ↓reduceIte, reduceCtorEq, w_app_nl, lls_length]
  refine cond_n (fun h => ?_) (fun h => ?_) <;> try simp (maxSteps := 500000) (disch := omega) only [go_sem, jjA, jjB, jjC, jjD, jjE, jjF, jjG, jjH, jjI, jjJ, ↓reduceIte, reduceCtorEq, wrap_id, w_ite_ne, w_ite_lt, jjK, jjL]
  · exact Pub.of_eq (by congr 1; simp; intro hab; exact h (by rw [hab])) rfl
  have hl : a.length = b.length := by omega
  refine awp_upF [6, 7, 8, 9, 17, 18, 19, 20, 21, 22, 23, 24, 25, 26, 27, 28, 29, 30, 31] (by kernel_rfl) a.length (fun k e _ => e 17 = .int .i64 k ∧ ∀ j, j < k → a[j]? = b[j]?) ?_ ?_
  · exact ⟨(by first | ((try simp (maxSteps := 1000000) only [go_sem, jjA, jjB, jjC, jjD, jjE, jjF, jjG, jjH, jjI, jjJ, ↓reduceIte, reduceCtorEq, w_app_nl]); done) | ((try simp (maxSteps := 1000000) only [go_sem, jjA, jjB, jjC, jjD, jjE, jjF, jjG, jjH, jjI, jjJ, ↓reduceIte, reduceCtorEq, w_app_nl]); rfl) | ((try simp (maxSteps := 1000000) (disch := omega) only [go_sem, jjA, jjB, jjC, jjD, jjE, jjF, jjG, jjH, jjI, jjJ, ↓reduceIte, reduceCtorEq, w_app_nl, wrap_id, w_ite_ne, w_ite_lt]); rfl) | (simp (maxSteps := 1000000) (disch := omega) only [go_sem, jjA, jjB, jjC, jjD, jjE, jjF, jjG, jjH, jjI, jjJ, ↓reduceIte, reduceCtorEq, w_app_nl, wrap_id, w_ite_ne, w_ite_lt]; done)), fun j hj => by omega⟩
  · rintro k fe ob c hk ⟨h17, hj⟩
    simp (maxSteps := 1000000) only [go_sem, jjA, jjB, jjC, jjD, jjE, jjF, jjG, jjH, jjI, jjJ, ↓reduceIte, reduceCtorEq, w_app_nl] at h17
    try simp (maxSteps := 500000) (disch := omega) only [go_sem, jjA, jjB, jjC, jjD, jjE, jjF, jjG, jjH, jjI, jjJ, ↓reduceIte, reduceCtorEq, wrap_id, w_ite_ne, w_ite_lt, jjK, jjL, h17, lls_length]
    refine cond_d (fun hlt => ?_) (fun hge => ?_)
    · have hka : k < a.length := by omega
      have hga : a[k]? = some a[k] := List.getElem?_eq_getElem hka
      have hgb : b[k]? = some b[k] := List.getElem?_eq_getElem (by omega)
      have hE := ok_slices_Equal__int a[k] b[k] (hx _ (List.getElem_mem hka))
      have hiff : a[k] = b[k] ↔ (decide (a[k] = b[k])) = true := by simp
      generalize a[k] = x at *
      generalize b[k] = y at *
      skip
      try simp (maxSteps := 500000) (disch := omega) only [go_sem, jjA, jjB, jjC, jjD, jjE, jjF, jjG, jjH, jjI, jjJ, ↓reduceIte, reduceCtorEq, wrap_id, w_ite_ne, w_ite_lt, jjK, jjL, h17, lls_length, lls_get, hga, hgb, Option.map_some]
      repeat (refine And.intro (by first | omega | (rw [mxL]; omega) | (simp [maxLen]; done) | (simp [maxLen]; omega)) ?_)
      refine call_pc hE (by simp [go_sem, ints_pur]) ?_
      cases hs : (decide (x = y)) <;> try simp (maxSteps := 500000) (disch := omega) only [go_sem, jjA, jjB, jjC, jjD, jjE, jjF, jjG, jjH, jjI, jjJ, ↓reduceIte, reduceCtorEq, wrap_id, w_ite_ne, w_ite_lt, jjK, jjL, h17]
      · exact Pub.of_eq (by congr 1; simp; intro hab; subst hab; rw [hga] at hgb; rw [hiff.1 (Option.some.inj hgb)] at hs; cases hs) rfl
      · refine up_next hka ⟨(by first | ((try simp (maxSteps := 1000000) only [go_sem, jjA, jjB, jjC, jjD, jjE, jjF, jjG, jjH, jjI, jjJ, ↓reduceIte, reduceCtorEq, w_app_nl]); done) | ((try simp (maxSteps := 1000000) only [go_sem, jjA, jjB, jjC, jjD, jjE, jjF, jjG, jjH, jjI, jjJ, ↓reduceIte, reduceCtorEq, w_app_nl]); rfl) | ((try simp (maxSteps := 1000000) (disch := omega) only [go_sem, jjA, jjB, jjC, jjD, jjE, jjF, jjG, jjH, jjI, jjJ, ↓reduceIte, reduceCtorEq, w_app_nl, wrap_id, w_ite_ne, w_ite_lt]); rfl) | (simp (maxSteps := 1000000) (disch := omega) only [go_sem, jjA, jjB, jjC, jjD, jjE, jjF, jjG, jjH, jjI, jjJ, ↓reduceIte, reduceCtorEq, w_app_nl, wrap_id, w_ite_ne, w_ite_lt]; done)), fun j hj' => ?_⟩
        by_cases e : j = k
        · subst e; rw [hga, hgb, hiff.2 hs]
        · exact hj j (by omega)
    · try simp (maxSteps := 500000) (disch := omega) only [go_sem, jjA, jjB, jjC, jjD, jjE, jjF, jjG, jjH, jjI, jjJ, ↓reduceIte, reduceCtorEq, wrap_id, w_ite_ne, w_ite_lt, jjK, jjL]
      exact Pub.of_eq (by congr 1; simp; exact eq_of_get hl fun j hj' => hj j (by omega)) rfl
theorem ok_slices_EqualFunc__Warning (a b : List (Wn)) (ha : a.length ≤ 9223372036854775807) (hx : ∀ x ∈ a, x.cs.length ≤ 9223372036854775807) : PC prog n_slices_EqualFunc__Warning [.list 4 (wns a), .list 4 (wns b), .func n_warning_alike []] (.bool (decide (a = b))) := by
  refine PC_of_body b_slices_EqualFunc__Warning (by simp) ?_
  simp only [c_slices_EqualFunc__Warning, go_sem, jjA, jjB, jjC, jjD, jjE, jjF, jjG, jjH, jjI, jjJ, ↓reduceIte, reduceCtorEq, w_app_nl, wns_length]
  refine cond_n (fun h => ?_) (fun h => ?_) <;> try simp (maxSteps := 500000) (disch := omega) only [go_sem, jjA, jjB, jjC, jjD, jjE, jjF, jjG, jjH, jjI, jjJ, ↓reduceIte, reduceCtorEq, wrap_id, w_ite_ne, w_ite_lt, jjK, jjL]
  · exact Pub.of_eq (by congr 1; simp; intro hab; exact h (by rw [hab])) rfl
  have hl : a.length = b.length := by omega
  refine awp_upF [6, 7, 8, 9, 17, 18, 19, 20, 21, 22, 23, 24, 25, 26, 27, 28, 29, 30, 31] (by kernel_rfl) a.length (fun k e _ => e 17 = .int .i64 k ∧ ∀ j, j < k → a[j]? = b[j]?) ?_ ?_
  · exact ⟨(by first | ((try simp (maxSteps := 1000000) only [go_sem, jjA, jjB, jjC, jjD, jjE, jjF, jjG, jjH, jjI, jjJ, ↓reduceIte, reduceCtorEq, w_app_nl]); done) | ((try simp (maxSteps := 1000000) only [go_sem, jjA, jjB, jjC, jjD, jjE, jjF, jjG, jjH, jjI, jjJ, ↓reduceIte, reduceCtorEq, w_app_nl]); rfl) | ((try simp (maxSteps := 1000000) (disch := omega) only [go_sem, jjA, jjB, jjC, jjD, jjE, jjF, jjG, jjH, jjI, jjJ, ↓reduceIte, reduceCtorEq, w_app_nl, wrap_id, w_ite_ne, w_ite_lt]); rfl) | (simp (maxSteps := 1000000) (disch := omega) only [go_sem, jjA, jjB, jjC, jjD, jjE, jjF, jjG, jjH, jjI, jjJ, ↓reduceIte, reduceCtorEq, w_app_nl, wrap_id, w_ite_ne, w_ite_lt]; done)), fun j hj => by omega⟩
  · rintro k fe ob c hk ⟨h17, hj⟩
    simp (maxSteps := 1000000) only [go_sem, jjA, jjB, jjC, jjD, jjE, jjF, jjG, jjH, jjI, jjJ, ↓reduceIte, reduceCtorEq, w_app_nl] at h17
    try simp (maxSteps := 500000) (disch := omega) only [go_sem, jjA, jjB, jjC, jjD, jjE, jjF, jjG, jjH, jjI, jjJ, ↓reduceIte, reduceCtorEq, wrap_id, w_ite_ne, w_ite_lt, jjK, jjL, h17, wns_length]
    refine cond_d (fun hlt => ?_) (fun hge => ?_)
    · have hka : k < a.length := by omega
      have hga : a[k]? = some a[k] := List.getElem?_eq_getElem hka
      have hgb : b[k]? = some b[k] := List.getElem?_eq_getElem (by omega)
      have hE := ok_warning_alike a[k] b[k] (hx _ (List.getElem_mem hka))
      have hiff : a[k] = b[k] ↔ (sameW a[k] b[k]) = true := by simp [sameW_iff]
      generalize a[k] = x at *
      generalize b[k] = y at *
      simp only [wnv] at hE
      try simp (maxSteps := 500000) (disch := omega) only [go_sem, jjA, jjB, jjC, jjD, jjE, jjF, jjG, jjH, jjI, jjJ, ↓reduceIte, reduceCtorEq, wrap_id, w_ite_ne, w_ite_lt, jjK, jjL, h17, wns_length, wns_get, hga, hgb, Option.map_some, wnv]
      repeat (refine And.intro (by first | omega | (rw [mxL]; omega) | (simp [maxLen]; done) | (simp [maxLen]; omega)) ?_)
      refine call_pc hE (by simp [go_sem, css_pur]) ?_
      cases hs : (sameW x y) <;> try simp (maxSteps := 500000) (disch := omega) only [go_sem, jjA, jjB, jjC, jjD, jjE, jjF, jjG, jjH, jjI, jjJ, ↓reduceIte, reduceCtorEq, wrap_id, w_ite_ne, w_ite_lt, jjK, jjL, h17]
      · exact Pub.of_eq (by congr 1; simp; intro hab; subst hab; rw [hga] at hgb; rw [hiff.1 (Option.some.inj hgb)] at hs; cases hs) rfl
      · refine up_next hka ⟨(by first | ((try simp (maxSteps := 1000000) only [go_sem, jjA, jjB, jjC, jjD, jjE, jjF, jjG, jjH, jjI, jjJ, ↓reduceIte, reduceCtorEq, w_app_nl]); done) | ((try simp (maxSteps := 1000000) only [go_sem, jjA, jjB, jjC, jjD, jjE, jjF, jjG, jjH, jjI, jjJ, ↓reduceIte, reduceCtorEq, w_app_nl]); rfl) | ((try simp (maxSteps := 1000000) (disch := omega) only [go_sem, jjA, jjB, jjC, jjD, jjE, jjF, jjG, jjH, jjI, jjJ, ↓reduceIte, reduceCtorEq, w_app_nl, wrap_id, w_ite_ne, w_ite_lt]); rfl) | (simp (maxSteps := 1000000) (disch := omega) only [go_sem, jjA, jjB, jjC, jjD, jjE, jjF, jjG, jjH, jjI, jjJ, ↓reduceIte, reduceCtorEq, w_app_nl, wrap_id, w_ite_ne, w_ite_lt]; done)), fun j hj' => ?_⟩
        by_cases e : j = k
        · subst e; rw [hga, hgb, hiff.2 hs]
        · exact hj j (by omega)
    · try simp (maxSteps := 500000) (disch := omega) only [go_sem, jjA, jjB, jjC, jjD, jjE, jjF, jjG, jjH, jjI, jjJ, ↓reduceIte, reduceCtorEq, wrap_id, w_ite_ne, w_ite_lt, jjK, jjL]
      exact Pub.of_eq (by congr 1; simp; exact eq_of_get hl fun j hj' => hj j (by omega)) rfl
theorem ok_warning_Same (a b : Bo) (h : BoL a) : PC prog n_warning_Same [bov a, bov b] (.bool (decide (a = b))) := by
  refine PC_of_body b_warning_Same (by simp) ?_
  simp only [c_warning_Same, go_sem, jjA, jjB, jjC, jjD, jjE, jjF, jjG, jjH, jjI, jjJ, ↓reduceIte, reduceCtorEq, w_app_nl, bov]
  refine call_pc (ok_slices_Equal__Watch a.ps b.ps h.p) (by simp [go_sem, wts_pur]) ?_
  try simp (maxSteps := 500000) (disch := omega) only [go_sem, jjA, jjB, jjC, jjD, jjE, jjF, jjG, jjH, jjI, jjJ, ↓reduceIte, reduceCtorEq, wrap_id, w_ite_ne, w_ite_lt, jjK, jjL]
  refine gd_td rfl (fun h1 => ?_) (fun h1 => ?_) <;> try simp (maxSteps := 500000) (disch := omega) only [go_sem, jjA, jjB, jjC, jjD, jjE, jjF, jjG, jjH, jjI, jjJ, ↓reduceIte, reduceCtorEq, wrap_id, w_ite_ne, w_ite_lt, jjK, jjL]
  · refine call_pc (ok_slices_EqualFunc__int a.pa b.pa h.q h.l) (by simp [go_sem, lls_pur]) ?_
    try simp (maxSteps := 500000) (disch := omega) only [go_sem, jjA, jjB, jjC, jjD, jjE, jjF, jjG, jjH, jjI, jjJ, ↓reduceIte, reduceCtorEq, wrap_id, w_ite_ne, w_ite_lt, jjK, jjL]
    refine gd_td rfl (fun h2 => ?_) (fun h2 => ?_) <;> try simp (maxSteps := 500000) (disch := omega) only [go_sem, jjA, jjB, jjC, jjD, jjE, jjF, jjG, jjH, jjI, jjJ, ↓reduceIte, reduceCtorEq, wrap_id, w_ite_ne, w_ite_lt, jjK, jjL]
    · refine call_pc (ok_slices_EqualFunc__Warning a.ac b.ac h.a h.c) (by simp [go_sem, wns_pur]) ?_
      try simp (maxSteps := 500000) (disch := omega) only [go_sem, jjA, jjB, jjC, jjD, jjE, jjF, jjG, jjH, jjI, jjJ, ↓reduceIte, reduceCtorEq, wrap_id, w_ite_ne, w_ite_lt, jjK, jjL]
      exact Pub.of_eq (by simp [bo_eq, h1, h2]) rfl
    · exact Pub.of_eq (by simp [bo_eq, h2]) rfl
  · exact Pub.of_eq (by simp [bo_eq, h1]) rfl
theorem ok_ref36_Same (a b : Bo) (h : BoL a) : PC prog n_ref36_Same [bov a, bov b] (.bool (decide (a = b))) := by
  have hl1 := h.p
  have hl2 := h.q
  have hl3 := h.a
  refine PC_of_body b_ref36_Same (by simp) ?_
  simp only [c_ref36_Same, go_sem, jjA, jjB, jjC, jjD, jjE, jjF, jjG, jjH, jjI, jjJ, ↓reduceIte, reduceCtorEq, w_app_nl, bov, wts_length]
  have no : a ≠ b → ∀ {σ : St}, Pub σ (.bool false) (.bool (decide (a = b))) := fun h σ => Pub.of_eq (by simp [h]) rfl
  refine gd_fn rfl (fun h1 => ?_) (fun h1 => ?_) <;> try simp (maxSteps := 500000) (disch := omega) only [go_sem, jjA, jjB, jjC, jjD, jjE, jjF, jjG, jjH, jjI, jjJ, ↓reduceIte, reduceCtorEq, wrap_id, w_ite_ne, w_ite_lt, jjK, jjL, lls_length]
  · exact no fun e => by rw [e] at h1; exact h1 rfl
  refine gd_fn rfl (fun h2 => ?_) (fun h2 => ?_) <;> try simp (maxSteps := 500000) (disch := omega) only [go_sem, jjA, jjB, jjC, jjD, jjE, jjF, jjG, jjH, jjI, jjJ, ↓reduceIte, reduceCtorEq, wrap_id, w_ite_ne, w_ite_lt, jjK, jjL, wns_length]
  · exact no fun e => by rw [e] at h2; exact h2 rfl
  refine cond_n (fun h3 => ?_) (fun h3 => ?_) <;> try simp (maxSteps := 500000) (disch := omega) only [go_sem, jjA, jjB, jjC, jjD, jjE, jjF, jjG, jjH, jjI, jjJ, ↓reduceIte, reduceCtorEq, wrap_id, w_ite_ne, w_ite_lt, jjK, jjL, wts_length]
  · exact no fun e => by rw [e] at h3; exact h3 rfl
  refine awp_upG [4, 5, 36, 37, 38, 39, 40, 41, 42, 43, 44, 45, 46, 47, 48, 49, 50] (by kernel_rfl) a.ps.length (fun k e σ => e 36 = .int .i64 k ∧ σ.ob 0 = some ⟨0, 3, 31, false, true, [bov a]⟩ ∧ σ.ob 1 = some ⟨1, 3, 31, false, true, [bov b]⟩ ∧ ∀ j, j < k → a.ps[j]? = b.ps[j]?) ?_ ?_
  · exact ⟨(by first | ((try simp (maxSteps := 1000000) only [go_sem, jjA, jjB, jjC, jjD, jjE, jjF, jjG, jjH, jjI, jjJ, ↓reduceIte, reduceCtorEq, w_app_nl]); done) | ((try simp (maxSteps := 1000000) only [go_sem, jjA, jjB, jjC, jjD, jjE, jjF, jjG, jjH, jjI, jjJ, ↓reduceIte, reduceCtorEq, w_app_nl]); rfl) | ((try simp (maxSteps := 1000000) (disch := omega) only [go_sem, jjA, jjB, jjC, jjD, jjE, jjF, jjG, jjH, jjI, jjJ, ↓reduceIte, reduceCtorEq, w_app_nl, wrap_id, w_ite_ne, w_ite_lt]); rfl) | (simp (maxSteps := 1000000) (disch := omega) only [go_sem, jjA, jjB, jjC, jjD, jjE, jjF, jjG, jjH, jjI, jjJ, ↓reduceIte, reduceCtorEq, w_app_nl, wrap_id, w_ite_ne, w_ite_lt]; done)), by try simp (maxSteps := 500000) (disch := omega) only [go_sem, jjA, jjB, jjC, jjD, jjE, jjF, jjG, jjH, jjI, jjJ, ↓reduceIte, reduceCtorEq, wrap_id, w_ite_ne, w_ite_lt, jjK, jjL, bov], by try simp (maxSteps := 500000) (disch := omega) only [go_sem, jjA, jjB, jjC, jjD, jjE, jjF, jjG, jjH, jjI, jjJ, ↓reduceIte, reduceCtorEq, wrap_id, w_ite_ne, w_ite_lt, jjK, jjL, bov], fun j hj => by omega⟩
  rintro k fe ob m c hk hm ⟨h36, ho0, ho1, hj⟩
  simp (maxSteps := 1000000) only [go_sem, jjA, jjB, jjC, jjD, jjE, jjF, jjG, jjH, jjI, jjJ, ↓reduceIte, reduceCtorEq, w_app_nl, bov] at h36 ho0 ho1 hm
  try simp (maxSteps := 500000) (disch := omega) only [go_sem, jjA, jjB, jjC, jjD, jjE, jjF, jjG, jjH, jjI, jjJ, ↓reduceIte, reduceCtorEq, wrap_id, w_ite_ne, w_ite_lt, jjK, jjL, h36, wts_length]
  refine cond_d (fun hlt => ?_) (fun hge => ?_)
  · have hka : k < a.ps.length := by omega
    have hga : a.ps[k]? = some a.ps[k] := List.getElem?_eq_getElem hka
    have hgb : b.ps[k]? = some b.ps[k] := List.getElem?_eq_getElem (by omega)
    try simp (maxSteps := 500000) (disch := omega) only [go_sem, jjA, jjB, jjC, jjD, jjE, jjF, jjG, jjH, jjI, jjJ, ↓reduceIte, reduceCtorEq, wrap_id, w_ite_ne, w_ite_lt, jjK, jjL, h36, ho0, ho1, wts_length, wts_get, hga, hgb, Option.map_some, wtv]
    repeat (refine And.intro (by first | omega | (rw [mxL]; omega) | (simp [maxLen]; done) | (simp [maxLen]; omega)) ?_)
    refine ⟨fun hne => ?_, fun heq => ?_⟩
    · try simp (maxSteps := 500000) (disch := omega) only [go_sem, jjA, jjB, jjC, jjD, jjE, jjF, jjG, jjH, jjI, jjJ, ↓reduceIte, reduceCtorEq, wrap_id, w_ite_ne, w_ite_lt, jjK, jjL]
      exact no fun e => by subst e; simp at hne
    · try simp (maxSteps := 500000) (disch := omega) only [go_sem, jjA, jjB, jjC, jjD, jjE, jjF, jjG, jjH, jjI, jjJ, ↓reduceIte, reduceCtorEq, wrap_id, w_ite_ne, w_ite_lt, jjK, jjL, h36]
      refine up_nextG m hka (by omega) ⟨(by first | ((try simp (maxSteps := 1000000) only [go_sem, jjA, jjB, jjC, jjD, jjE, jjF, jjG, jjH, jjI, jjJ, ↓reduceIte, reduceCtorEq, w_app_nl]); done) | ((try simp (maxSteps := 1000000) only [go_sem, jjA, jjB, jjC, jjD, jjE, jjF, jjG, jjH, jjI, jjJ, ↓reduceIte, reduceCtorEq, w_app_nl]); rfl) | ((try simp (maxSteps := 1000000) (disch := omega) only [go_sem, jjA, jjB, jjC, jjD, jjE, jjF, jjG, jjH, jjI, jjJ, ↓reduceIte, reduceCtorEq, w_app_nl, wrap_id, w_ite_ne, w_ite_lt]); rfl) | (simp (maxSteps := 1000000) (disch := omega) only [go_sem, jjA, jjB, jjC, jjD, jjE, jjF, jjG, jjH, jjI, jjJ, ↓reduceIte, reduceCtorEq, w_app_nl, wrap_id, w_ite_ne, w_ite_lt]; done)), by try simp (maxSteps := 500000) (disch := omega) only [go_sem, jjA, jjB, jjC, jjD, jjE, jjF, jjG, jjH, jjI, jjJ, ↓reduceIte, reduceCtorEq, wrap_id, w_ite_ne, w_ite_lt, jjK, jjL, bov]; exact ho0, by try simp (maxSteps := 500000) (disch := omega) only [go_sem, jjA, jjB, jjC, jjD, jjE, jjF, jjG, jjH, jjI, jjJ, ↓reduceIte, reduceCtorEq, wrap_id, w_ite_ne, w_ite_lt, jjK, jjL, bov]; exact ho1, fun j hj' => ?_⟩
      by_cases e : j = k
      · have he : a.ps[k] = b.ps[k] := wt_eq.2 (by simpa using heq)
        subst e; rw [hga, hgb, he]
      · exact hj j (by omega)
  have hps : a.ps = b.ps := eq_of_get (by omega) fun j hj' => hj j (by omega)
  clear hj hge h36
  try simp (maxSteps := 500000) (disch := omega) only [go_sem, jjA, jjB, jjC, jjD, jjE, jjF, jjG, jjH, jjI, jjJ, ↓reduceIte, reduceCtorEq, wrap_id, w_ite_ne, w_ite_lt, jjK, jjL, ho0, lls_length]
  refine awp_upG [4, 6, 54, 55, 56, 57, 58, 59, 60, 61, 62, 63, 64, 65, 66, 67, 68, 69] (by kernel_rfl) a.pa.length (fun k e σ => e 54 = .int .i64 k ∧ σ.ob 0 = some ⟨0, 3, 31, false, true, [bov a]⟩ ∧ σ.ob 1 = some ⟨1, 3, 31, false, true, [bov b]⟩ ∧ ∀ j, j < k → a.pa[j]? = b.pa[j]?) ?_ ?_
  · exact ⟨(by first | ((try simp (maxSteps := 1000000) only [go_sem, jjA, jjB, jjC, jjD, jjE, jjF, jjG, jjH, jjI, jjJ, ↓reduceIte, reduceCtorEq, w_app_nl]); done) | ((try simp (maxSteps := 1000000) only [go_sem, jjA, jjB, jjC, jjD, jjE, jjF, jjG, jjH, jjI, jjJ, ↓reduceIte, reduceCtorEq, w_app_nl]); rfl) | ((try simp (maxSteps := 1000000) (disch := omega) only [go_sem, jjA, jjB, jjC, jjD, jjE, jjF, jjG, jjH, jjI, jjJ, ↓reduceIte, reduceCtorEq, w_app_nl, wrap_id, w_ite_ne, w_ite_lt]); rfl) | (simp (maxSteps := 1000000) (disch := omega) only [go_sem, jjA, jjB, jjC, jjD, jjE, jjF, jjG, jjH, jjI, jjJ, ↓reduceIte, reduceCtorEq, w_app_nl, wrap_id, w_ite_ne, w_ite_lt]; done)), by try simp (maxSteps := 500000) (disch := omega) only [go_sem, jjA, jjB, jjC, jjD, jjE, jjF, jjG, jjH, jjI, jjJ, ↓reduceIte, reduceCtorEq, wrap_id, w_ite_ne, w_ite_lt, jjK, jjL, bov]; exact ho0, by try simp (maxSteps := 500000) (disch := omega) only [go_sem, jjA, jjB, jjC, jjD, jjE, jjF, jjG, jjH, jjI, jjJ, ↓reduceIte, reduceCtorEq, wrap_id, w_ite_ne, w_ite_lt, jjK, jjL, bov]; exact ho1, fun j hj => by omega⟩
  clear ho0 ho1 hk
  rintro k2 fe2 ob2 m2 c2 hk2 hm2 ⟨h54, ho0, ho1, hj⟩
  simp (maxSteps := 1000000) only [go_sem, jjA, jjB, jjC, jjD, jjE, jjF, jjG, jjH, jjI, jjJ, ↓reduceIte, reduceCtorEq, w_app_nl, bov] at h54 ho0 ho1 hm2
  try simp (maxSteps := 500000) (disch := omega) only [go_sem, jjA, jjB, jjC, jjD, jjE, jjF, jjG, jjH, jjI, jjJ, ↓reduceIte, reduceCtorEq, wrap_id, w_ite_ne, w_ite_lt, jjK, jjL, h54, lls_length]
  refine cond_d (fun hlt2 => ?_) (fun hge => ?_)
  · have hka : k2 < a.pa.length := by omega
    have hga : a.pa[k2]? = some a.pa[k2] := List.getElem?_eq_getElem hka
    have hgb : b.pa[k2]? = some b.pa[k2] := List.getElem?_eq_getElem (by omega)
    have hE := ok_ref36_Ints a.pa[k2] b.pa[k2] (h.l _ (List.getElem_mem hka))
    have hiff : a.pa[k2] = b.pa[k2] ↔ decide (a.pa[k2] = b.pa[k2]) = true := by simp
    generalize a.pa[k2] = x at *
    generalize b.pa[k2] = y at *
    try simp (maxSteps := 500000) (disch := omega) only [go_sem, jjA, jjB, jjC, jjD, jjE, jjF, jjG, jjH, jjI, jjJ, ↓reduceIte, reduceCtorEq, wrap_id, w_ite_ne, w_ite_lt, jjK, jjL, h54, ho0, ho1, lls_length, lls_get, hga, hgb, Option.map_some]
    repeat (refine And.intro (by first | omega | (rw [mxL]; omega) | (simp [maxLen]; done) | (simp [maxLen]; omega)) ?_)
    refine call_pc hE (by simp [go_sem, ints_pur]) ?_
    cases hs : decide (x = y) <;> try simp (maxSteps := 500000) (disch := omega) only [go_sem, jjA, jjB, jjC, jjD, jjE, jjF, jjG, jjH, jjI, jjJ, ↓reduceIte, reduceCtorEq, wrap_id, w_ite_ne, w_ite_lt, jjK, jjL, h54]
    · exact no fun e => by subst e; rw [hga] at hgb; rw [hiff.1 (Option.some.inj hgb)] at hs; cases hs
    · refine up_nextG m2 hka (by omega) ⟨(by first | ((try simp (maxSteps := 1000000) only [go_sem, jjA, jjB, jjC, jjD, jjE, jjF, jjG, jjH, jjI, jjJ, ↓reduceIte, reduceCtorEq, w_app_nl]); done) | ((try simp (maxSteps := 1000000) only [go_sem, jjA, jjB, jjC, jjD, jjE, jjF, jjG, jjH, jjI, jjJ, ↓reduceIte, reduceCtorEq, w_app_nl]); rfl) | ((try simp (maxSteps := 1000000) (disch := omega) only [go_sem, jjA, jjB, jjC, jjD, jjE, jjF, jjG, jjH, jjI, jjJ, ↓reduceIte, reduceCtorEq, w_app_nl, wrap_id, w_ite_ne, w_ite_lt]); rfl) | (simp (maxSteps := 1000000) (disch := omega) only [go_sem, jjA, jjB, jjC, jjD, jjE, jjF, jjG, jjH, jjI, jjJ, ↓reduceIte, reduceCtorEq, w_app_nl, wrap_id, w_ite_ne, w_ite_lt]; done)), by try simp (maxSteps := 500000) (disch := omega) only [go_sem, jjA, jjB, jjC, jjD, jjE, jjF, jjG, jjH, jjI, jjJ, ↓reduceIte, reduceCtorEq, wrap_id, w_ite_ne, w_ite_lt, jjK, jjL, bov]; exact ho0, by try simp (maxSteps := 500000) (disch := omega) only [go_sem, jjA, jjB, jjC, jjD, jjE, jjF, jjG, jjH, jjI, jjJ, ↓reduceIte, reduceCtorEq, wrap_id, w_ite_ne, w_ite_lt, jjK, jjL, bov]; exact ho1, fun j hj' => ?_⟩
      by_cases e : j = k2
      · subst e; rw [hga, hgb, hiff.2 hs]
      · exact hj j (by omega)
  have hpa : a.pa = b.pa := eq_of_get (by omega) fun j hj' => hj j (by omega)
  clear hj hge h54
  try simp (maxSteps := 500000) (disch := omega) only [go_sem, jjA, jjB, jjC, jjD, jjE, jjF, jjG, jjH, jjI, jjJ, ↓reduceIte, reduceCtorEq, wrap_id, w_ite_ne, w_ite_lt, jjK, jjL, ho0, wns_length]
  refine awp_upG [4, 7, 73, 74, 75, 76, 77, 78, 79, 80, 81, 82, 83, 84, 85, 86, 87, 88] (by kernel_rfl) a.ac.length (fun k e σ => e 73 = .int .i64 k ∧ σ.ob 0 = some ⟨0, 3, 31, false, true, [bov a]⟩ ∧ σ.ob 1 = some ⟨1, 3, 31, false, true, [bov b]⟩ ∧ ∀ j, j < k → a.ac[j]? = b.ac[j]?) ?_ ?_
  · exact ⟨(by first | ((try simp (maxSteps := 1000000) only [go_sem, jjA, jjB, jjC, jjD, jjE, jjF, jjG, jjH, jjI, jjJ, ↓reduceIte, reduceCtorEq, w_app_nl]); done) | ((try simp (maxSteps := 1000000) only [go_sem, jjA, jjB, jjC, jjD, jjE, jjF, jjG, jjH, jjI, jjJ, ↓reduceIte, reduceCtorEq, w_app_nl]); rfl) | ((try simp (maxSteps := 1000000) (disch := omega) only [go_sem, jjA, jjB, jjC, jjD, jjE, jjF, jjG, jjH, jjI, jjJ, ↓reduceIte, reduceCtorEq, w_app_nl, wrap_id, w_ite_ne, w_ite_lt]); rfl) | (simp (maxSteps := 1000000) (disch := omega) only [go_sem, jjA, jjB, jjC, jjD, jjE, jjF, jjG, jjH, jjI, jjJ, ↓reduceIte, reduceCtorEq, w_app_nl, wrap_id, w_ite_ne, w_ite_lt]; done)), by try simp (maxSteps := 500000) (disch := omega) only [go_sem, jjA, jjB, jjC, jjD, jjE, jjF, jjG, jjH, jjI, jjJ, ↓reduceIte, reduceCtorEq, wrap_id, w_ite_ne, w_ite_lt, jjK, jjL, bov]; exact ho0, by try simp (maxSteps := 500000) (disch := omega) only [go_sem, jjA, jjB, jjC, jjD, jjE, jjF, jjG, jjH, jjI, jjJ, ↓reduceIte, reduceCtorEq, wrap_id, w_ite_ne, w_ite_lt, jjK, jjL, bov]; exact ho1, fun j hj => by omega⟩
  clear ho0 ho1
  rintro k3 fe3 ob3 m3 c3 hk3 hm3 ⟨h73, ho0, ho1, hj⟩
  simp (maxSteps := 1000000) only [go_sem, jjA, jjB, jjC, jjD, jjE, jjF, jjG, jjH, jjI, jjJ, ↓reduceIte, reduceCtorEq, w_app_nl, bov] at h73 ho0 ho1 hm3
  try simp (maxSteps := 500000) (disch := omega) only [go_sem, jjA, jjB, jjC, jjD, jjE, jjF, jjG, jjH, jjI, jjJ, ↓reduceIte, reduceCtorEq, wrap_id, w_ite_ne, w_ite_lt, jjK, jjL, h73, wns_length]
  refine cond_d (fun hlt3 => ?_) (fun hge => ?_)
  · have hka : k3 < a.ac.length := by omega
    have hga : a.ac[k3]? = some a.ac[k3] := List.getElem?_eq_getElem hka
    have hgb : b.ac[k3]? = some b.ac[k3] := List.getElem?_eq_getElem (by omega)
    have hE := ok_ref36_SameWarning a.ac[k3] b.ac[k3] (h.c _ (List.getElem_mem hka))
    have hiff : a.ac[k3] = b.ac[k3] ↔ sameW a.ac[k3] b.ac[k3] = true := by simp [sameW_iff]
    generalize a.ac[k3] = x at *
    generalize b.ac[k3] = y at *
    simp only [wnv] at hE
    try simp (maxSteps := 500000) (disch := omega) only [go_sem, jjA, jjB, jjC, jjD, jjE, jjF, jjG, jjH, jjI, jjJ, ↓reduceIte, reduceCtorEq, wrap_id, w_ite_ne, w_ite_lt, jjK, jjL, h73, ho0, ho1, wns_length, wns_get, hga, hgb, Option.map_some, wnv]
    repeat (refine And.intro (by first | omega | (rw [mxL]; omega) | (simp [maxLen]; done) | (simp [maxLen]; omega)) ?_)
    refine call_pc hE (by simp [go_sem, css_pur]) ?_
    cases hs : sameW x y <;> try simp (maxSteps := 500000) (disch := omega) only [go_sem, jjA, jjB, jjC, jjD, jjE, jjF, jjG, jjH, jjI, jjJ, ↓reduceIte, reduceCtorEq, wrap_id, w_ite_ne, w_ite_lt, jjK, jjL, h73]
    · exact no fun e => by subst e; rw [hga] at hgb; rw [hiff.1 (Option.some.inj hgb)] at hs; cases hs
    · refine up_nextG m3 hka (by omega) ⟨(by first | ((try simp (maxSteps := 1000000) only [go_sem, jjA, jjB, jjC, jjD, jjE, jjF, jjG, jjH, jjI, jjJ, ↓reduceIte, reduceCtorEq, w_app_nl]); done) | ((try simp (maxSteps := 1000000) only [go_sem, jjA, jjB, jjC, jjD, jjE, jjF, jjG, jjH, jjI, jjJ, ↓reduceIte, reduceCtorEq, w_app_nl]); rfl) | ((try simp (maxSteps := 1000000) (disch := omega) only [go_sem, jjA, jjB, jjC, jjD, jjE, jjF, jjG, jjH, jjI, jjJ, ↓reduceIte, reduceCtorEq, w_app_nl, wrap_id, w_ite_ne, w_ite_lt]); rfl) | (simp (maxSteps := 1000000) (disch := omega) only [go_sem, jjA, jjB, jjC, jjD, jjE, jjF, jjG, jjH, jjI, jjJ, ↓reduceIte, reduceCtorEq, w_app_nl, wrap_id, w_ite_ne, w_ite_lt]; done)), by try simp (maxSteps := 500000) (disch := omega) only [go_sem, jjA, jjB, jjC, jjD, jjE, jjF, jjG, jjH, jjI, jjJ, ↓reduceIte, reduceCtorEq, wrap_id, w_ite_ne, w_ite_lt, jjK, jjL, bov]; exact ho0, by try simp (maxSteps := 500000) (disch := omega) only [go_sem, jjA, jjB, jjC, jjD, jjE, jjF, jjG, jjH, jjI, jjJ, ↓reduceIte, reduceCtorEq, wrap_id, w_ite_ne, w_ite_lt, jjK, jjL, bov]; exact ho1, fun j hj' => ?_⟩
      by_cases e : j = k3
      · subst e; rw [hga, hgb, hiff.2 hs]
      · exact hj j (by omega)
  · have hac : a.ac = b.ac := eq_of_get (by omega) fun j hj' => hj j (by omega)
    try simp (maxSteps := 500000) (disch := omega) only [go_sem, jjA, jjB, jjC, jjD, jjE, jjF, jjG, jjH, jjI, jjJ, ↓reduceIte, reduceCtorEq, wrap_id, w_ite_ne, w_ite_lt, jjK, jjL]
    exact Pub.of_eq (by simp [bo_eq, hps, hpa, hac]) rfl
end Go.Proofs.Try
