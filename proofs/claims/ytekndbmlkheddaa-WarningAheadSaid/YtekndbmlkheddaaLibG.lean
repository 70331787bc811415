/-
  OWN WORK, put together by tools/asm.py: what functions do.
-/
import Derived.Test.YtekndbmlkheddaaLibF
set_option linter.unusedSimpArgs false
set_option linter.unusedVariables false
set_option maxRecDepth 100000
set_option maxHeartbeats 1000000
namespace Go.Proofs.Try
open Go.Ab Go
open Int renaming reduceEq → jjA, reduceLT → jjB, reduceLE → jjC, reduceToNat → jjD
open Nat renaming reduceLT → jjE, reduceEqDiff → jjF, reduceAdd → jjG, reduceLeDiff → jjH, reduceSub → jjI, reduceMul → jjJ, sub_zero → jjK, sub_self → jjL
theorem call_rod {P : Program} {σ : St} {f : Nat} {args args' : List AV} {r : AV} {K : AV → St → Prop} (d : Nat) (o : AObj) (ho : σ.ob d = some o) (h : PC P f args' r) (hp : Lent ⟨fun i => if decide (i ≠ d) then none else σ.ob i, σ.n, σ.c⟩ args args') (ha : ∀ a ∈ args', a.pur = true)
    (hK : ∀ ob', (∀ j, j ≠ d → ob' j = σ.ob j) → ob' d = some { o with ro := true } → K r ⟨ob', σ.n, σ.c⟩) : HC P f args σ K :=
  call_ro (fun i => decide (i ≠ d)) h hp ha (hK _ (fun j hj => by simp [hj]) (by simp [ho]))
theorem ahd_len (x : Bo) (N : List (List Int)) (h : BoL x) : (ahdL x N).length ≤ 9223372036854775807 := by
  rw [ahdL]
  have h1 := selL_len (ahdI x N) x.ps.length
  have h2 := h.p
  split
  · omega
  · simp
theorem see_len (x : Bo) (N : List Int) (h : BoL x) : (seeR x N).2.length ≤ 9223372036854775807 := by
  rw [seeR]
  have h1 := selL_len (roseI x N) x.ps.length
  have h2 := h.p
  split
  · simp only; omega
  · simp
theorem see_sz (x : Bo) (N : List Int) (h : BoL x) : BoL (seeR x N).1 := by
  rw [seeR]
  split
  · rename_i e
    rw [seeE] at e
    split at e
    · omega
    · rename_i h1
      split at e
      · omega
      · rename_i h2
        split at e
        · omega
        · rename_i h3
          exact ((vdB_iff.1 (by simpa using h1)).see (by simpa using h2) (by simpa using h3)).sz
  · exact ⟨by simp [boZ], by simp [boZ], by simp [boZ], by simp [boZ], by simp [boZ]⟩
theorem open_sz (l : List Wt) : BoL (openR l) := by
  rw [openR]
  split
  · rename_i e
    exact (Vb.open e).sz
  · exact ⟨by simp [boZ], by simp [boZ], by simp [boZ], by simp [boZ], by simp [boZ]⟩
theorem act_len (x : Bo) (n : Int) (h : BoL x) : ((actO x n).getD wnZ).cs.length ≤ 9223372036854775807 := by
  cases e : actO x n with
  | none => simp [wnZ]
  | some w =>
    rw [actO] at e
    split at e
    · exact h.c w (List.mem_of_find?_eq_some e)
    · cases e
theorem lls_len (l : List (List Int)) : (lls l).length = l.length := by simp [lls]
/-! arguments by shape: boards, causes, lists of lists -/
abbrev shI : Sh := .int .i64
abbrev shWt : Sh := .struct (.fc shI (.fc shI (.fc shI (.fc shI .f0))))
abbrev shCs : Sh := .struct (.fc shI (.fc shI .f0))
abbrev shWn : Sh := .struct (.fc shI (.fc shI (.fc (.slice 2 shCs) (.fc shI .f0))))
abbrev shLls : Sh := .slice 1 (.slice 1 shI)
abbrev shBo : Sh := .struct (.fc (.slice 4 shWt) (.fc shLls (.fc (.slice 4 shWn) .f0)))
theorem shCsR {c : List AV} (h : shCs.R c) : ∃ b : Cs, shCs.mk1 c = csv b := by
  obtain ⟨x, y, rfl, ⟨a, rfl, _⟩, z, w, rfl, ⟨b, rfl, _⟩, rfl⟩ := h
  exact ⟨⟨a, b⟩, rfl⟩
theorem shCssR {c : List AV} (h : (Sh.slice 2 shCs).R c) : ∃ L : List Cs, c = [.list 2 (css L)] ∧ L.length ≤ 9223372036854775807 := by
  obtain ⟨xs, rfl, hl, h⟩ := h
  obtain ⟨L, rfl, hL⟩ := exists_map (f := csv) (Q := fun _ => True) fun x hx => by
    obtain ⟨cs, hr, _, rfl⟩ := h x hx
    obtain ⟨b, hb⟩ := shCsR hr
    exact ⟨b, trivial, hb⟩
  exact ⟨L, rfl, by simpa using hl⟩
theorem shWtR {c : List AV} (h : shWt.R c) : ∃ b : Wt, shWt.mk1 c = wtv b := by
  obtain ⟨x1, y1, rfl, ⟨a, rfl, _⟩, x2, y2, rfl, ⟨b, rfl, _⟩, x3, y3, rfl, ⟨d, rfl, _⟩, x4, y4, rfl, ⟨e, rfl, _⟩, rfl⟩ := h
  exact ⟨⟨a, b, d, e⟩, rfl⟩
theorem shWtsR {c : List AV} (h : (Sh.slice 4 shWt).R c) : ∃ L : List Wt, c = [.list 4 (wts L)] ∧ L.length ≤ 9223372036854775807 := by
  obtain ⟨xs, rfl, hl, h⟩ := h
  obtain ⟨L, rfl, hL⟩ := exists_map (f := wtv) (Q := fun _ => True) fun x hx => by
    obtain ⟨cs, hr, _, rfl⟩ := h x hx
    obtain ⟨b, hb⟩ := shWtR hr
    exact ⟨b, trivial, hb⟩
  exact ⟨L, rfl, by simpa using hl⟩
theorem shWnR {c : List AV} (h : shWn.R c) : ∃ b : Wn, b.cs.length ≤ 9223372036854775807 ∧ shWn.mk1 c = wnv b := by
  obtain ⟨x1, y1, rfl, ⟨a, rfl, _⟩, x2, y2, rfl, ⟨b, rfl, _⟩, x3, y3, rfl, h3, x4, y4, rfl, ⟨e, rfl, _⟩, rfl⟩ := h
  obtain ⟨L, rfl, hL⟩ := shCssR h3
  exact ⟨⟨a, b, L, e⟩, hL, rfl⟩
theorem shWnsR {c : List AV} (h : (Sh.slice 4 shWn).R c) : ∃ L : List Wn, c = [.list 4 (wns L)] ∧ L.length ≤ 9223372036854775807 ∧ ∀ w ∈ L, w.cs.length ≤ 9223372036854775807 := by
  obtain ⟨xs, rfl, hl, h⟩ := h
  obtain ⟨L, rfl, hL⟩ := exists_map (f := wnv) (Q := fun w => w.cs.length ≤ 9223372036854775807) fun x hx => by
    obtain ⟨cs, hr, _, rfl⟩ := h x hx
    obtain ⟨b, hb1, hb⟩ := shWnR hr
    exact ⟨b, hb1, hb⟩
  exact ⟨L, rfl, by simpa using hl, hL⟩
theorem shLlsR {c : List AV} (h : shLls.R c) : ∃ L : List (List Int), c = [.list 1 (lls L)] ∧ L.length ≤ 9223372036854775807 ∧ ∀ l ∈ L, l.length ≤ 9223372036854775807 := by
  obtain ⟨xs, rfl, hl, h⟩ := h
  obtain ⟨L, rfl, hL⟩ := exists_map (f := fun l => AV.list 1 (ints l)) (Q := fun w => w.length ≤ 9223372036854775807) fun x hx => by
    obtain ⟨cs, hr, _, rfl⟩ := h x hx
    obtain ⟨l, rfl, hl, _⟩ := shInts hr
    exact ⟨l, hl, rfl⟩
  exact ⟨L, rfl, by simpa using hl, hL⟩
theorem shBoR {c : List AV} (h : shBo.R c) : ∃ b : Bo, shBo.mk1 c = bov b ∧ BoL b := by
  obtain ⟨x1, y1, rfl, h1, x2, y2, rfl, h2, x3, y3, rfl, h3, rfl⟩ := h
  obtain ⟨L1, rfl, l1⟩ := shWtsR h1
  obtain ⟨L2, rfl, l2, m2⟩ := shLlsR h2
  obtain ⟨L3, rfl, l3, m3⟩ := shWnsR h3
  exact ⟨⟨L1, L2, L3⟩, rfl, l1, l2, m2, l3, m3⟩
/-! WarningAhead, in plain terms -/
theorem firstGo_iff (w k : Int) : ∀ (l : List Int) (j : Nat) (p : List Int), (firstGo w k j p l).2 = true ↔ ∃ i x, l[i]? = some x ∧ k < riseS (p ++ l.take i) w x
  | [], j, p => by simp [firstGo]
  | y :: r, j, p => by
    rw [firstGo]
    split
    · rename_i h
      exact ⟨fun _ => ⟨0, y, rfl, by simpa using h⟩, fun _ => rfl⟩
    · rename_i h
      rw [firstGo_iff w k r (j + 1) (p ++ [y])]
      constructor
      · rintro ⟨i, x, h1, h2⟩
        exact ⟨i + 1, x, by simpa using h1, by simpa using h2⟩
      · rintro ⟨i, x, h1, h2⟩
        cases i with
        | zero => simp at h1; subst h1; simp at h2; exact absurd h2 h
        | succ i => exact ⟨i, x, by simpa using h1, by simpa using h2⟩
theorem lastW_app (l r : List Int) (w : Int) : lastW (lastW l w ++ r) w = lastW (l ++ r) w := by
  simp only [lastW, List.length_append, List.length_drop]
  rw [← List.drop_append_of_le_length (by omega), List.drop_drop]
  congr 1
  omega
theorem lastW_congr {l l' : List Int} {w : Int} (h : lastW l w = lastW l' w) (r : List Int) : lastW (l ++ r) w = lastW (l' ++ r) w := by
  rw [← lastW_app l, ← lastW_app l', h]
theorem lastW_idem (l : List Int) (w : Int) : lastW (lastW l w) w = lastW l w := by
  have := lastW_app l [] w
  simpa using this
theorem riseS_congr {l l' : List Int} {w f : Int} (hw : 1 ≤ w) (h : lastW l w = lastW l' w) : riseS l w f = riseS l' w f := by
  have he : l = [] ↔ l' = [] := by
    constructor
    · rintro rfl
      refine Classical.byContradiction fun e => lastW_ne hw e ?_
      rw [← h]; simp [lastW]
    · rintro rfl
      refine Classical.byContradiction fun e => lastW_ne hw e ?_
      rw [h]; simp [lastW]
  have : leastR l w = leastR l' w := by
    simp only [leastR, he, h]
  rw [riseS, riseS, this]
def nowK (n : Nat) (next : List (List Int)) (k : Nat) : List Int := (List.range n).map fun i => gN (gX next i) k
/-- the board after k rounds -/
def stK (b : Bo) (next : List (List Int)) : Nat → Bo
  | 0 => b
  | k + 1 => seeB (stK b next k) (nowK b.ps.length next k)
/-- a point that has risen in time, in the first k rounds -/
def rkB (b : Bo) (next : List (List Int)) : Nat → Nat → Bool
  | 0, _ => false
  | k + 1, i => rkB b next k i || (roseI (stK b next k) (nowK b.ps.length next k) i && decide ((k : Int) ≤ (gW b i).ld))
theorem nowK_len (n : Nat) (next : List (List Int)) (k : Nat) : (nowK n next k).length = n := by simp [nowK]
theorem nowK_get {n i : Nat} (next : List (List Int)) (k : Nat) (h : i < n) : gN (nowK n next k) i = gN (gX next i) k := by
  simp [gN, nowK, List.getD_eq_getElem?_getD, List.getElem?_map, List.getElem?_range h]
theorem nowK_fls {n : Nat} {next : List (List Int)} {k : Nat} (h : ∀ i, i < n → flB (gN (gX next i) k) = true) : flsB (nowK n next k) = true := by
  rw [flsB, List.all_eq_true]
  intro x hx
  obtain ⟨i, hi, rfl⟩ := List.mem_map.1 hx
  exact h i (List.mem_range.1 hi)
theorem stK_ps (b : Bo) (next : List (List Int)) (k : Nat) : (stK b next k).ps = b.ps := by
  induction k with
  | zero => rfl
  | succ k ih => simp only [stK, seeB]; exact ih
theorem stK_vb {b : Bo} {next : List (List Int)} (hb : Vb b) (h : ∀ i k, flB (gN (gX next i) k) = true) (k : Nat) : Vb (stK b next k) := by
  induction k with
  | zero => exact hb
  | succ k ih => exact ih.see (by rw [nowK_len, stK_ps]) (nowK_fls fun i _ => h i k)
theorem seeB_gL {b : Bo} {now : List Int} {i : Nat} (h : i < b.ps.length) : gL (seeB b now) i = pastI b now i := by
  simp [gL, seeB, List.getD_eq_getElem?_getD, List.getElem?_map, List.getElem?_range h]
theorem stK_gW (b : Bo) (next : List (List Int)) (k i : Nat) : gW (stK b next k) i = gW b i := by rw [gW, gW, stK_ps]
theorem stK_past {b : Bo} {next : List (List Int)} {i : Nat} (hi : i < b.ps.length) (k : Nat) (hk : k ≤ (gX next i).length) : lastW (gL (stK b next k) i) (gW b i).w = lastW (gL b i ++ (gX next i).take k) (gW b i).w := by
  induction k with
  | zero => simp [stK]
  | succ k ih =>
    have hk2 : k < (gX next i).length := by omega
    rw [stK, seeB_gL (by rw [stK_ps]; exact hi), pastI, stK_gW, lastW_idem, nowK_get next k hi, lastW_congr (ih (by omega)), List.append_assoc, List.take_add_one, gN_get hk2]
    rfl
theorem rk_iff (b : Bo) (next : List (List Int)) (k i : Nat) : rkB b next k i = true ↔ ∃ j, j < k ∧ (j : Int) ≤ (gW b i).ld ∧ roseI (stK b next j) (nowK b.ps.length next j) i = true := by
  induction k with
  | zero => simp [rkB]
  | succ k ih =>
    rw [rkB, Bool.or_eq_true, ih, Bool.and_eq_true, decide_eq_true_eq]
    constructor
    · rintro (⟨j, h1, h2⟩ | ⟨h1, h2⟩)
      · exact ⟨j, by omega, h2⟩
      · exact ⟨k, by omega, h2, h1⟩
    · rintro ⟨j, h1, h2, h3⟩
      rcases Nat.eq_or_lt_of_le (show j ≤ k by omega) with rfl | h
      · exact .inr ⟨h3, h2⟩
      · exact .inl ⟨j, h, h2, h3⟩
theorem ahead_law {b : Bo} {next : List (List Int)} {i : Nat} (hb : Bd0 b) (hi : i < b.ps.length) (h6 : (gX next i).length = 6) : rkB b next 6 i = ahdI b next i := by
  have hw := hb.p.2.2 _ (List.mem_of_getElem? (gW_get hi))
  obtain ⟨-, ⟨hw1, hw2⟩, -, hl1, hl2⟩ := hw
  rw [Bool.eq_iff_iff, rk_iff, ahdI, firstGo_iff, nxtI]
  have hro : ∀ j, j < 6 → (roseI (stK b next j) (nowK b.ps.length next j) i = true ↔ (gW b i).lim < riseS (gL b i ++ (gX next i).take j) (gW b i).w (gN (gX next i) j)) := fun j hj => by
    rw [roseI, decide_eq_true_eq, stK_gW, nowK_get next j hi, riseS_congr hw1 (stK_past hi j (by omega))]
  constructor
  · rintro ⟨j, h1, h2, h3⟩
    rw [hro j h1] at h3
    refine ⟨j, gN (gX next i) j, ?_, ?_⟩
    · rw [List.getElem?_take, if_pos (by omega)]; exact gN_get (by omega)
    · rw [List.take_take, Nat.min_eq_left (by omega)]; exact h3
  · rintro ⟨j, x, h1, h2⟩
    have hj : j < ((gW b i).ld + 1).toNat := by
      have := (List.getElem?_eq_some_iff.1 h1).1
      rw [List.length_take] at this
      omega
    rw [List.getElem?_take, if_pos hj, gN_get (by omega)] at h1
    obtain rfl := Option.some.inj h1
    rw [List.take_take, Nat.min_eq_left (by omega)] at h2
    exact ⟨j, by omega, by omega, (hro j (by omega)).2 h2⟩
/-! flags by number -/
def fnL (n : Nat) (f : Nat → Bool) : List AV := (List.range n).map fun i => .bool (f i)
theorem fnL_len (n : Nat) (f : Nat → Bool) : (fnL n f).length = n := by simp [fnL]
theorem fnL_get {n i : Nat} (f : Nat → Bool) (h : i < n) : (fnL n f)[i]? = some (.bool (f i)) := by simp [fnL, List.getElem?_range h]
theorem fnL_set {n i : Nat} {f g : Nat → Bool} {v : Bool} (h : ∀ j, j < n → g j = if j = i then v else f j) : (fnL n f).set i (.bool v) = fnL n g := by
  apply List.ext_getElem?
  intro j
  rw [List.getElem?_set]
  by_cases hj : j < n
  · by_cases e : i = j
    · subst e; simp [fnL, hj, h i hj]
    · rw [if_neg e, fnL_get _ hj, fnL_get _ hj, h j hj, if_neg (fun e2 => e e2.symm)]
  · have e1 : (fnL n f)[j]? = none := List.getElem?_eq_none (by rw [fnL_len]; omega)
    have e2 : (fnL n g)[j]? = none := List.getElem?_eq_none (by rw [fnL_len]; omega)
    rw [e1, e2]
    split
    · rw [if_neg (by rw [fnL_len]; omega)]
    · rfl
theorem fnL_false (n : Nat) : List.replicate n (.bool false) = fnL n fun _ => false := by
  apply List.ext_getElem?
  intro j
  by_cases hj : j < n
  · rw [fnL_get _ hj, List.getElem?_replicate, if_pos hj]
  · rw [List.getElem?_eq_none (by simp; omega), List.getElem?_eq_none (by rw [fnL_len]; omega)]
theorem fnL_congr {n : Nat} {f g : Nat → Bool} (h : ∀ i, i < n → f i = g i) : fnL n f = fnL n g := by
  rw [fnL, fnL]
  exact List.map_congr_left fun i hi => by rw [h i (List.mem_range.1 hi)]
/-- rose, after j of the points that rise in round k -/
def rsJ (b : Bo) (L : List (List Int)) (k : Nat) (l : List Int) (j i : Nat) : Bool := rkB b L k i || (decide ((i : Int) ∈ l.take j) && decide ((k : Int) ≤ (gW b i).ld))
theorem rsJ_set {b : Bo} {L : List (List Int)} {k j i0 n : Nat} {l : List Int} (h : l[j]? = some (i0 : Int)) {v : Bool} (hv : v = (rsJ b L k l j i0 || decide ((k : Int) ≤ (gW b i0).ld))) : (fnL n (rsJ b L k l j)).set i0 (.bool v) = fnL n (rsJ b L k l (j + 1)) := by
  refine fnL_set fun i hi => ?_
  have hm : ((i : Int) ∈ l.take (j + 1)) ↔ ((i : Int) ∈ l.take j ∨ i = i0) := by
    have e2 : ((i : Int) = (i0 : Int)) ↔ i = i0 := by omega
    rw [List.take_add_one, h]
    simp [e2]
  by_cases e : i = i0
  · subst e
    rw [if_pos rfl, hv]
    simp only [rsJ, hm, or_true, decide_true, Bool.true_and]
    cases rkB b L k i <;> cases decide ((i : Int) ∈ l.take j) <;> cases decide ((k : Int) ≤ (gW b i).ld) <;> rfl
  · rw [if_neg e]
    simp only [rsJ, hm, e, or_false]
theorem ok_law36_WarningAhead (t : List Int) : PC prog n_law36_WarningAhead [.list 1 (ints t)] (.bool true) := by
  refine PC_of_body b_law36_WarningAhead (by simp) ?_
  simp only [c_law36_WarningAhead, go_sem, jjA, jjB, jjC, jjD, jjE, jjF, jjG, jjH, jjI, jjJ, ↓reduceIte, reduceCtorEq, w_app_nl]
  try simp (maxSteps := 500000) (disch := omega) only [go_sem, jjA, jjB, jjC, jjD, jjE, jjF, jjG, jjH, jjI, jjJ, ↓reduceIte, reduceCtorEq, wrap_id, w_ite_ne, w_ite_lt, jjK, jjL]
  refine call_pc ok_law36_sane (by simp) ?_
  try simp (maxSteps := 500000) (disch := omega) only [go_sem, jjA, jjB, jjC, jjD, jjE, jjF, jjG, jjH, jjI, jjJ, ↓reduceIte, reduceCtorEq, wrap_id, w_ite_ne, w_ite_lt, jjK, jjL]
  refine call_pc (ok_mk_Few t) (by simp [go_sem]) ?_
  try simp (maxSteps := 500000) (disch := omega) only [go_sem, jjA, jjB, jjC, jjD, jjE, jjF, jjG, jjH, jjI, jjJ, ↓reduceIte, reduceCtorEq, wrap_id, w_ite_ne, w_ite_lt, jjK, jjL]
  cases hfew : fewB t
  · try simp (maxSteps := 500000) (disch := omega) only [go_sem, jjA, jjB, jjC, jjD, jjE, jjF, jjG, jjH, jjI, jjJ, ↓reduceIte, reduceCtorEq, wrap_id, w_ite_ne, w_ite_lt, jjK, jjL]
    exact Pub.pure rfl
  have hlt : t.length ≤ 9223372036854775807 := by simp [fewB] at hfew; omega
  try simp (maxSteps := 500000) (disch := omega) only [go_sem, jjA, jjB, jjC, jjD, jjE, jjF, jjG, jjH, jjI, jjJ, ↓reduceIte, reduceCtorEq, wrap_id, w_ite_ne, w_ite_lt, jjK, jjL]
  refine call_hc (ok_mk_New _ t) ?_
  try simp (maxSteps := 500000) (disch := omega) only [go_sem, jjA, jjB, jjC, jjD, jjE, jjF, jjG, jjH, jjI, jjJ, ↓reduceIte, reduceCtorEq, wrap_id, w_ite_ne, w_ite_lt, jjK, jjL]
  refine (hc_flow_Board _ 0 0 t 0 hlt (by simp only [St.push]; omega) (by try simp (maxSteps := 500000) (disch := omega) only [go_sem, jjA, jjB, jjC, jjD, jjE, jjF, jjG, jjH, jjI, jjJ, ↓reduceIte, reduceCtorEq, wrap_id, w_ite_ne, w_ite_lt, jjK, jjL])).mono ?_
  intro r τ hD
  obtain ⟨⟨b, rfl, hB⟩, hn, ⟨at1, hd⟩, -⟩ := hD.use (by simp only [St.push]; omega)
  obtain ⟨ob1, m1, c1⟩ := τ
  simp only [St.push] at hn hd
  subst hn
  clear hD
  have hV := hB.v
  have hl1 := hB.p.1
  have hl3 := hB.p.2.1
  try simp (maxSteps := 500000) (disch := omega) only [go_sem, jjA, jjB, jjC, jjD, jjE, jjF, jjG, jjH, jjI, jjJ, ↓reduceIte, reduceCtorEq, wrap_id, w_ite_ne, w_ite_lt, jjK, jjL, bov, wts_length]
  refine awp_upG [5, 34, 35, 36, 37, 38, 39, 40, 41] (by kernel_rfl) b.ps.length (fun k e σ => e 34 = .int .i64 k ∧ 2 ≤ σ.n ∧ (∃ a, σ.ob 0 = some ⟨0, 2, ty_Deck, false, true, [deckV t a]⟩) ∧ σ.ob 1 = some ⟨c1, 3, 31, false, true, [.agg [.list 4 (wts b.ps), .list 1 (lls b.pa), .list 4 (wns b.ac)]]⟩ ∧ ∃ X L, At e 5 X ∧ L.length = k ∧ (∀ l ∈ L, l.length = 6 ∧ ∀ x ∈ l, 0 ≤ x ∧ x < 40) ∧ SlR 1 22 σ (lls L) X ∧ ∀ i, ¬ Oth X i → 2 ≤ i) ?_ ?_
  · exact ⟨(by first | ((try simp (maxSteps := 1000000) only [go_sem, jjA, jjB, jjC, jjD, jjE, jjF, jjG, jjH, jjI, jjJ, ↓reduceIte, reduceCtorEq, w_app_nl]); done) | ((try simp (maxSteps := 1000000) only [go_sem, jjA, jjB, jjC, jjD, jjE, jjF, jjG, jjH, jjI, jjJ, ↓reduceIte, reduceCtorEq, w_app_nl]); rfl) | ((try simp (maxSteps := 1000000) (disch := omega) only [go_sem, jjA, jjB, jjC, jjD, jjE, jjF, jjG, jjH, jjI, jjJ, ↓reduceIte, reduceCtorEq, w_app_nl, wrap_id, w_ite_ne, w_ite_lt]); rfl) | (simp (maxSteps := 1000000) (disch := omega) only [go_sem, jjA, jjB, jjC, jjD, jjE, jjF, jjG, jjH, jjI, jjJ, ↓reduceIte, reduceCtorEq, w_app_nl, wrap_id, w_ite_ne, w_ite_lt]; done)), Nat.le_refl _, ⟨at1, by try simp (maxSteps := 500000) (disch := omega) only [go_sem, jjA, jjB, jjC, jjD, jjE, jjF, jjG, jjH, jjI, jjJ, ↓reduceIte, reduceCtorEq, wrap_id, w_ite_ne, w_ite_lt, jjK, jjL]; exact hd⟩, (by first | ((try simp (maxSteps := 1000000) only [go_sem, jjA, jjB, jjC, jjD, jjE, jjF, jjG, jjH, jjI, jjJ, ↓reduceIte, reduceCtorEq, w_app_nl]); done) | ((try simp (maxSteps := 1000000) only [go_sem, jjA, jjB, jjC, jjD, jjE, jjF, jjG, jjH, jjI, jjJ, ↓reduceIte, reduceCtorEq, w_app_nl]); rfl) | ((try simp (maxSteps := 1000000) (disch := omega) only [go_sem, jjA, jjB, jjC, jjD, jjE, jjF, jjG, jjH, jjI, jjJ, ↓reduceIte, reduceCtorEq, w_app_nl, wrap_id, w_ite_ne, w_ite_lt]); rfl) | (simp (maxSteps := 1000000) (disch := omega) only [go_sem, jjA, jjB, jjC, jjD, jjE, jjF, jjG, jjH, jjI, jjJ, ↓reduceIte, reduceCtorEq, w_app_nl, wrap_id, w_ite_ne, w_ite_lt]; done)), .nil, [], (by simp only [At]; try simp (maxSteps := 500000) (disch := omega) only [go_sem, jjA, jjB, jjC, jjD, jjE, jjF, jjG, jjH, jjI, jjJ, ↓reduceIte, reduceCtorEq, wrap_id, w_ite_ne, w_ite_lt, jjK, jjL]), rfl, (fun l hl => by cases hl), SlR.nil, fun i hi => absurd (Oth.nil i) hi⟩
  clear hd
  rintro k fe ob m c hk hm ⟨hki, hm1, ⟨a, hd⟩, u1, X, L, h5, hL, hLb, hX, hXn⟩
  simp (maxSteps := 1000000) only [go_sem, jjA, jjB, jjC, jjD, jjE, jjF, jjG, jjH, jjI, jjJ, ↓reduceIte, reduceCtorEq, w_app_nl, At] at hki hm hm1 hd u1 h5
  try simp (maxSteps := 500000) (disch := omega) only [go_sem, jjA, jjB, jjC, jjD, jjE, jjF, jjG, jjH, jjI, jjJ, ↓reduceIte, reduceCtorEq, wrap_id, w_ite_ne, w_ite_lt, jjK, jjL, hki, wts_length]
  refine cond_d (fun hlt2 => ?_) (fun hge => ?_)
  · have hkl : k < b.ps.length := by omega
    have oX : ∀ i, i < 2 → Oth X i := fun i hi => Oth.em fun h => by have := hXn i h; omega
    try simp (maxSteps := 500000) (disch := omega) only [go_sem, jjA, jjB, jjC, jjD, jjE, jjF, jjG, jjH, jjI, jjJ, ↓reduceIte, reduceCtorEq, wrap_id, w_ite_ne, w_ite_lt, jjK, jjL, h5]
    refine (hcD_mk_Flows _ 0 0 t a 6 40 (by omega) (by omega) (by omega) hlt (by simp only; omega) hd).mono ?_
    intro r τ hD
    obtain ⟨⟨l, rfl, hll, hlb⟩, hn, ⟨a2, hda⟩, hf⟩ := hD.use (by simp only; omega)
    obtain ⟨ob4, m4, c4⟩ := τ
    simp only at hn hda hf
    subst hn
    have lll : (lls L).length = k := by rw [lls_len, hL]
    try simp (maxSteps := 500000) (disch := omega) only [go_sem, jjA, jjB, jjC, jjD, jjE, jjF, jjG, jjH, jjI, jjJ, ↓reduceIte, reduceCtorEq, wrap_id, w_ite_ne, w_ite_lt, jjK, jjL, h5]
    refine app_slr (b := 24) (hX.move (Nat.le_refl _) fun i hi hh => hf i hi (by have := hXn i hh; omega)) (by omega) (by omega) fun Y τ hY kY => ?_
    obtain ⟨ob5, m5, c5⟩ := τ
    have q1 : m4 ≤ m5 := kY.1
    have q2 : ∀ i, i < 2 → ob5 i = ob4 i := fun i hi => kY.2.1 i (by simp only; omega) (oX i hi)
    try simp (maxSteps := 500000) (disch := omega) only [go_sem, jjA, jjB, jjC, jjD, jjE, jjF, jjG, jjH, jjI, jjJ, ↓reduceIte, reduceCtorEq, wrap_id, w_ite_ne, w_ite_lt, jjK, jjL, hki]
    refine up_nextG m5 hkl (by omega) ⟨(by first | ((try simp (maxSteps := 1000000) only [go_sem, jjA, jjB, jjC, jjD, jjE, jjF, jjG, jjH, jjI, jjJ, ↓reduceIte, reduceCtorEq, w_app_nl]); done) | ((try simp (maxSteps := 1000000) only [go_sem, jjA, jjB, jjC, jjD, jjE, jjF, jjG, jjH, jjI, jjJ, ↓reduceIte, reduceCtorEq, w_app_nl]); rfl) | ((try simp (maxSteps := 1000000) (disch := omega) only [go_sem, jjA, jjB, jjC, jjD, jjE, jjF, jjG, jjH, jjI, jjJ, ↓reduceIte, reduceCtorEq, w_app_nl, wrap_id, w_ite_ne, w_ite_lt]); rfl) | (simp (maxSteps := 1000000) (disch := omega) only [go_sem, jjA, jjB, jjC, jjD, jjE, jjF, jjG, jjH, jjI, jjJ, ↓reduceIte, reduceCtorEq, w_app_nl, wrap_id, w_ite_ne, w_ite_lt]; done)), by simp only [St.trunc]; omega, ⟨a2, by rw [tr_ob (by omega), q2 0 (by omega)]; exact hda⟩, by rw [tr_ob (by omega), q2 1 (by omega), hf 1 (by omega) (by omega), u1], Y, L ++ [l], (by simp only [At]; try simp (maxSteps := 500000) (disch := omega) only [go_sem, jjA, jjB, jjC, jjD, jjE, jjF, jjG, jjH, jjI, jjJ, ↓reduceIte, reduceCtorEq, wrap_id, w_ite_ne, w_ite_lt, jjK, jjL]), by simp [hL], fun z hz => ?_, ?_, fun i hi => Nat.le_of_not_lt fun hh => hi (kY.2.2 i (by simp only; omega) (oX i hh))⟩
    · rcases List.mem_append.1 hz with hz | hz
      · exact hLb z hz
      · rw [List.mem_singleton] at hz; subst hz; exact ⟨hll, hlb⟩
    · rw [← lls_snoc]
      exact hY.tr
  obtain rfl : k = b.ps.length := by omega
  clear hge hk hki hd
  rcases hX with ⟨_, h0⟩ | ⟨xi, gx, rfl, hxi, hoX⟩
  · have : L.length = 0 := by rw [← lls_len, h0]; rfl
    omega
  have hxi2 := hXn xi fun h => h _ _ _ _ rfl
  simp only at hxi hoX
  clear hXn
  have hgl : ∀ i, i < b.ps.length → L[i]? = some (gX L i) := fun i hi => by simp [gX, List.getD_eq_getElem?_getD, List.getElem?_eq_getElem (show i < L.length by omega)]
  have hg6 : ∀ i, i < b.ps.length → (gX L i).length = 6 ∧ ∀ x ∈ gX L i, 0 ≤ x ∧ x < 40 := fun i hi => hLb _ (List.mem_of_getElem? (hgl i hi))
  have hfl : ∀ i k, flB (gN (gX L i) k) = true := fun i k => by
    have hz : flB 0 = true := rfl
    by_cases hi : i < b.ps.length
    · by_cases hk6 : k < (gX L i).length
      · have := (hg6 i hi).2 _ (List.mem_of_getElem? (gN_get hk6))
        simp [flB, inW]; omega
      · rw [gN, List.getD_eq_getElem?_getD, List.getElem?_eq_none (by omega)]; exact hz
    · have : gX L i = [] := by rw [gX, List.getD_eq_getElem?_getD, List.getElem?_eq_none (by omega)]; rfl
      rw [this]; exact hz
  have hvk := stK_vb (next := L) hV hfl
  have haE : ahdE b L = 0 := by
    rw [ahdE, if_neg (by simp [vdB_iff.2 hV]), if_neg (by simp [hL]), if_neg]
    simp only [Bool.not_eq_false, List.all_eq_true]
    intro l hl
    rw [flsB, List.all_eq_true]
    intro x hx
    have := (hLb l hl).2 x hx
    simp [flB, inW]; omega
  have hA := ok_warning_Ahead b L hV.sz (by omega) fun l hl => by have := (hLb l hl).1; omega
  rw [ahdV, haE] at hA
  have haL : ahdL b L = selL (ahdI b L) b.ps.length := by rw [ahdL, if_pos haE]
  have hal := ahd_len b L hV.sz
  simp only [bov] at hA
  try simp (maxSteps := 500000) (disch := omega) only [go_sem, jjA, jjB, jjC, jjD, jjE, jjF, jjG, jjH, jjI, jjJ, ↓reduceIte, reduceCtorEq, wrap_id, w_ite_ne, w_ite_lt, jjK, jjL, u1, h5]
  refine call_rod xi _ hoX hA (.cons (.pure (by simp [go_sem, wts_pur, lls_pur, wns_pur])) (.cons (Pub.of_sl (by simp only; rw [if_neg (by simp)]; exact hoX) rfl (lls_pur _) (lls_ok _)) .nil)) (by simp [go_sem, wts_pur, lls_pur, wns_pur]) fun ob4 hne4 hxi4 => ?_
  simp only at hne4 hxi4
  have v1 := (hne4 1 (by omega)).trans u1
  have x1 : ¬ 1 = m := by omega
  have x2 : ¬ xi = m := by omega
  try simp (maxSteps := 500000) (disch := omega) only [go_sem, jjA, jjB, jjC, jjD, jjE, jjF, jjG, jjH, jjI, jjJ, ↓reduceIte, reduceCtorEq, wrap_id, w_ite_ne, w_ite_lt, jjK, jjL, v1, wts_length]
  refine ⟨by omega, by omega, by omega, ?_⟩
  rw [fnL_false]
  refine awp_upG [2, 9, 10, 11, 12, 13, 14, 16, 54, 55, 56, 57, 58, 59, 60, 61, 62, 63, 64, 65, 66, 67, 68, 69, 70, 71, 72, 73, 74, 75, 76, 77, 78, 79, 80, 81, 82, 83, 84, 85, 86, 87, 88, 89, 90, 91, 92, 93, 94, 95, 96, 97, 98, 99, 100, 101, 102, 103, 104, 105, 106, 107, 108] (by kernel_rfl) 6 (fun k e σ => e 9 = .int .i64 k ∧ m + 1 ≤ σ.n ∧ σ.ob 1 = some ⟨c1, 3, 31, false, true, [.agg [.list 4 (wts (stK b L k).ps), .list 1 (lls (stK b L k).pa), .list 4 (wns (stK b L k).ac)]]⟩ ∧ σ.ob xi = some ⟨gx, 1, 22, true, true, lls L⟩ ∧ σ.ob m = some ⟨c, 1, 4, false, true, fnL b.ps.length (rkB b L k)⟩) ?_ ?_
  · refine ⟨(by first | ((try simp (maxSteps := 1000000) only [go_sem, jjA, jjB, jjC, jjD, jjE, jjF, jjG, jjH, jjI, jjJ, ↓reduceIte, reduceCtorEq, w_app_nl]); done) | ((try simp (maxSteps := 1000000) only [go_sem, jjA, jjB, jjC, jjD, jjE, jjF, jjG, jjH, jjI, jjJ, ↓reduceIte, reduceCtorEq, w_app_nl]); rfl) | ((try simp (maxSteps := 1000000) (disch := omega) only [go_sem, jjA, jjB, jjC, jjD, jjE, jjF, jjG, jjH, jjI, jjJ, ↓reduceIte, reduceCtorEq, w_app_nl, wrap_id, w_ite_ne, w_ite_lt]); rfl) | (simp (maxSteps := 1000000) (disch := omega) only [go_sem, jjA, jjB, jjC, jjD, jjE, jjF, jjG, jjH, jjI, jjJ, ↓reduceIte, reduceCtorEq, w_app_nl, wrap_id, w_ite_ne, w_ite_lt]; done)), Nat.le_refl _, ?_, ?_, ?_⟩
    · simp only; rw [upd_ne _ _ _ _ x1]; exact v1
    · simp only; rw [upd_ne _ _ _ _ x2]; exact hxi4
    · exact upd_same _ _ _
  clear v1 hxi4 hne4 u1 hoX
  rintro k fe2 ob2 m2 c2 hk hm2 ⟨hki, hm3, w1, wx, wr⟩
  simp (maxSteps := 1000000) only [go_sem, jjA, jjB, jjC, jjD, jjE, jjF, jjG, jjH, jjI, jjJ, ↓reduceIte, reduceCtorEq, w_app_nl] at hki hm2 hm3 w1 wx wr
  have hps := stK_ps b L k
  try simp (maxSteps := 500000) (disch := omega) only [go_sem, jjA, jjB, jjC, jjD, jjE, jjF, jjG, jjH, jjI, jjJ, ↓reduceIte, reduceCtorEq, wrap_id, w_ite_ne, w_ite_lt, jjK, jjL, hki]
  refine cond_d (fun hlt2 => ?_) (fun hge => ?_)
  · have hkl : k < 6 := by omega
    try simp (maxSteps := 500000) (disch := omega) only [go_sem, jjA, jjB, jjC, jjD, jjE, jjF, jjG, jjH, jjI, jjJ, ↓reduceIte, reduceCtorEq, wrap_id, w_ite_ne, w_ite_lt, jjK, jjL, w1, hps, wts_length]
    refine awp_upG [10, 11, 61, 62, 63, 64, 65, 66, 67, 68, 69, 70, 71, 72, 73, 74] (by kernel_rfl) b.ps.length (fun j e σ => e 61 = .int .i64 j ∧ m2 ≤ σ.n ∧ (∀ i, i < m2 → σ.ob i = ob2 i) ∧ ∃ Z, At e 10 Z ∧ SlR 1 3 σ (ints ((nowK b.ps.length L k).take j)) Z ∧ ∀ i, ¬ Oth Z i → m2 ≤ i) ?_ ?_
    · exact ⟨(by first | ((try simp (maxSteps := 1000000) only [go_sem, jjA, jjB, jjC, jjD, jjE, jjF, jjG, jjH, jjI, jjJ, ↓reduceIte, reduceCtorEq, w_app_nl]); done) | ((try simp (maxSteps := 1000000) only [go_sem, jjA, jjB, jjC, jjD, jjE, jjF, jjG, jjH, jjI, jjJ, ↓reduceIte, reduceCtorEq, w_app_nl]); rfl) | ((try simp (maxSteps := 1000000) (disch := omega) only [go_sem, jjA, jjB, jjC, jjD, jjE, jjF, jjG, jjH, jjI, jjJ, ↓reduceIte, reduceCtorEq, w_app_nl, wrap_id, w_ite_ne, w_ite_lt]); rfl) | (simp (maxSteps := 1000000) (disch := omega) only [go_sem, jjA, jjB, jjC, jjD, jjE, jjF, jjG, jjH, jjI, jjJ, ↓reduceIte, reduceCtorEq, w_app_nl, wrap_id, w_ite_ne, w_ite_lt]; done)), Nat.le_refl _, fun i _ => rfl, .nil, (by simp only [At]; try simp (maxSteps := 500000) (disch := omega) only [go_sem, jjA, jjB, jjC, jjD, jjE, jjF, jjG, jjH, jjI, jjJ, ↓reduceIte, reduceCtorEq, wrap_id, w_ite_ne, w_ite_lt, jjK, jjL]), SlR.nil, fun i hi => absurd (Oth.nil i) hi⟩
    rintro j fe3 ob3 m3 c3 hj hm4 ⟨hji, hm5, hf3, Z, h10, hZ, hZn⟩
    simp (maxSteps := 1000000) only [go_sem, jjA, jjB, jjC, jjD, jjE, jjF, jjG, jjH, jjI, jjJ, ↓reduceIte, reduceCtorEq, w_app_nl, At] at hji hm4 hm5 hf3 h10
    try simp (maxSteps := 500000) (disch := omega) only [go_sem, jjA, jjB, jjC, jjD, jjE, jjF, jjG, jjH, jjI, jjJ, ↓reduceIte, reduceCtorEq, wrap_id, w_ite_ne, w_ite_lt, jjK, jjL, hji]
    refine cond_d (fun hlt3 => ?_) (fun hge3 => ?_)
    · have hjl : j < b.ps.length := by omega
      have hg := hgl j hjl
      have h6 := (hg6 j hjl).1
      have hk6 := gN_get (l := gX L j) (i := k) (by omega)
      have hnk : (nowK b.ps.length L k)[j]? = some (gN (gX L j) k) := by
        have := gN_get (l := nowK b.ps.length L k) (i := j) (by rw [nowK_len]; exact hjl)
        rw [nowK_get L k hjl] at this; exact this
      have x3 := (hf3 xi (by omega)).trans wx
      try simp (maxSteps := 500000) (disch := omega) only [go_sem, jjA, jjB, jjC, jjD, jjE, jjF, jjG, jjH, jjI, jjJ, ↓reduceIte, reduceCtorEq, wrap_id, w_ite_ne, w_ite_lt, jjK, jjL, h10, h5, x3, hji, hki, lls_get, hg, Option.map_some, lls_len, ints_get, hk6, ints_length, h6, hL]
      refine ⟨by omega, by omega, by omega, by omega, ?_⟩
      have ljl : (ints ((nowK b.ps.length L k).take j)).length ≤ j := by rw [ints_length, List.length_take]; omega
      refine app_slr (b := 8) hZ (by omega) (by omega) fun Y τ hY kY => ?_
      obtain ⟨ob5, m5, c5⟩ := τ
      have q1 : m3 ≤ m5 := kY.1
      have oZ : ∀ i, i < m2 → Oth Z i := fun i hi => Oth.em fun h => by have := hZn i h; omega
      have q2 : ∀ i, i < m2 → ob5 i = ob3 i := fun i hi => kY.2.1 i (by simp only; omega) (oZ i hi)
      try simp (maxSteps := 500000) (disch := omega) only [go_sem, jjA, jjB, jjC, jjD, jjE, jjF, jjG, jjH, jjI, jjJ, ↓reduceIte, reduceCtorEq, wrap_id, w_ite_ne, w_ite_lt, jjK, jjL, hji]
      refine up_nextG m5 hjl (by omega) ⟨(by first | ((try simp (maxSteps := 1000000) only [go_sem, jjA, jjB, jjC, jjD, jjE, jjF, jjG, jjH, jjI, jjJ, ↓reduceIte, reduceCtorEq, w_app_nl]); done) | ((try simp (maxSteps := 1000000) only [go_sem, jjA, jjB, jjC, jjD, jjE, jjF, jjG, jjH, jjI, jjJ, ↓reduceIte, reduceCtorEq, w_app_nl]); rfl) | ((try simp (maxSteps := 1000000) (disch := omega) only [go_sem, jjA, jjB, jjC, jjD, jjE, jjF, jjG, jjH, jjI, jjJ, ↓reduceIte, reduceCtorEq, w_app_nl, wrap_id, w_ite_ne, w_ite_lt]); rfl) | (simp (maxSteps := 1000000) (disch := omega) only [go_sem, jjA, jjB, jjC, jjD, jjE, jjF, jjG, jjH, jjI, jjJ, ↓reduceIte, reduceCtorEq, w_app_nl, wrap_id, w_ite_ne, w_ite_lt]; done)), by simp only [St.trunc]; omega, fun i hi => by rw [tr_ob (by omega), q2 i hi, hf3 i hi], Y, (by simp only [At]; try simp (maxSteps := 500000) (disch := omega) only [go_sem, jjA, jjB, jjC, jjD, jjE, jjF, jjG, jjH, jjI, jjJ, ↓reduceIte, reduceCtorEq, wrap_id, w_ite_ne, w_ite_lt, jjK, jjL]), ?_, fun i hi => Nat.le_of_not_lt fun hh => hi (kY.2.2 i (by simp only; omega) (oZ i hh))⟩
      rw [List.take_add_one, hnk, ← ints_append]
      exact hY.tr
    obtain rfl : j = b.ps.length := by omega
    rw [List.take_of_length_le (by rw [nowK_len]; omega)] at hZ
    rcases hZ with ⟨_, h0⟩ | ⟨zi, gz, rfl, hzi, hoZ⟩
    · have : (nowK b.ps.length L k).length = 0 := by rw [← ints_length, h0]; rfl
      rw [nowK_len] at this
      omega
    have hzi2 := hZn zi fun h => h _ _ _ _ rfl
    simp only at hzi hoZ
    have y1 := (hf3 1 (by omega)).trans w1
    have yx := (hf3 xi (by omega)).trans wx
    have yr := (hf3 m (by omega)).trans wr
    clear hZn hge3 hji hj
    have hS := ok_warning_See (stK b L k) (nowK b.ps.length L k) (hvk k).sz (by rw [nowK_len]; omega)
    rw [seeV, seeR, see_e0 (vdB_iff.2 (hvk k)) (by rw [nowK_len, hps]) (nowK_fls fun i _ => hfl i k), if_pos rfl, hps] at hS
    rw [show seeB (stK b L k) (nowK b.ps.length L k) = stK b L (k + 1) from rfl] at hS
    have hmem : ∀ x ∈ selL (roseI (stK b L k) (nowK b.ps.length L k)) b.ps.length, ∃ i : Nat, i < b.ps.length ∧ roseI (stK b L k) (nowK b.ps.length L k) i = true ∧ x = i := fun x hx => selL_mem.1 hx
    have hmem2 : ∀ i : Nat, i < b.ps.length → (decide ((i : Int) ∈ selL (roseI (stK b L k) (nowK b.ps.length L k)) b.ps.length) = roseI (stK b L k) (nowK b.ps.length L k) i) := fun i hi => by
      rw [Bool.eq_iff_iff, decide_eq_true_eq, selL_mem]
      constructor
      · rintro ⟨i2, h1, h2, h3⟩
        obtain rfl : i = i2 := by omega
        exact h2
      · exact fun h => ⟨i, hi, h, rfl⟩
    have hlen := selL_len (roseI (stK b L k) (nowK b.ps.length L k)) b.ps.length
    generalize hsl : selL (roseI (stK b L k) (nowK b.ps.length L k)) b.ps.length = l at *
    simp only [bov] at hS
    try simp (maxSteps := 500000) (disch := omega) only [go_sem, jjA, jjB, jjC, jjD, jjE, jjF, jjG, jjH, jjI, jjJ, ↓reduceIte, reduceCtorEq, wrap_id, w_ite_ne, w_ite_lt, jjK, jjL, y1, h10]
    refine call_rod zi _ hoZ hS (.cons (.pure (by simp [go_sem, wts_pur, lls_pur, wns_pur])) (.cons (Pub.of_sl (by simp only; rw [if_neg (by simp)]; exact hoZ) rfl (ints_pur _) (ints_ok _)) .nil)) (by simp [go_sem, wts_pur, lls_pur, wns_pur, ints_pur]) fun ob5 hne5 hzi5 => ?_
    simp only at hne5 hzi5
    replace y1 := (hne5 1 (by omega)).trans y1
    replace yx := (hne5 xi (by omega)).trans yx
    replace yr := (hne5 m (by omega)).trans yr
    try simp (maxSteps := 500000) (disch := omega) only [go_sem, jjA, jjB, jjC, jjD, jjE, jjF, jjG, jjH, jjI, jjJ, ↓reduceIte, reduceCtorEq, wrap_id, w_ite_ne, w_ite_lt, jjK, jjL, ints_length]
    refine awp_upG [16, 86, 87, 88, 89, 90, 91, 92, 93, 94, 95, 96, 97, 98, 99, 100, 101, 102, 103, 104, 105, 106, 107] (by kernel_rfl) l.length (fun j e σ => e 86 = .int .i64 j ∧ m3 + 1 ≤ σ.n ∧ σ.ob 1 = some ⟨c1, 3, 31, false, true, [.agg [.list 4 (wts (stK b L k).ps), .list 1 (lls (stK b L k).pa), .list 4 (wns (stK b L k).ac)]]⟩ ∧ σ.ob xi = some ⟨gx, 1, 22, true, true, lls L⟩ ∧ σ.ob m3 = some ⟨c3, 3, 31, false, true, [.agg [.list 4 (wts (stK b L (k + 1)).ps), .list 1 (lls (stK b L (k + 1)).pa), .list 4 (wns (stK b L (k + 1)).ac)]]⟩ ∧ σ.ob m = some ⟨c, 1, 4, false, true, fnL b.ps.length (rsJ b L k l j)⟩) ?_ ?_
    · refine ⟨(by first | ((try simp (maxSteps := 1000000) only [go_sem, jjA, jjB, jjC, jjD, jjE, jjF, jjG, jjH, jjI, jjJ, ↓reduceIte, reduceCtorEq, w_app_nl]); done) | ((try simp (maxSteps := 1000000) only [go_sem, jjA, jjB, jjC, jjD, jjE, jjF, jjG, jjH, jjI, jjJ, ↓reduceIte, reduceCtorEq, w_app_nl]); rfl) | ((try simp (maxSteps := 1000000) (disch := omega) only [go_sem, jjA, jjB, jjC, jjD, jjE, jjF, jjG, jjH, jjI, jjJ, ↓reduceIte, reduceCtorEq, w_app_nl, wrap_id, w_ite_ne, w_ite_lt]); rfl) | (simp (maxSteps := 1000000) (disch := omega) only [go_sem, jjA, jjB, jjC, jjD, jjE, jjF, jjG, jjH, jjI, jjJ, ↓reduceIte, reduceCtorEq, w_app_nl, wrap_id, w_ite_ne, w_ite_lt]; done)), Nat.le_refl _, ?_, ?_, ?_, ?_⟩
      · simp only; rw [upd_ne _ _ _ _ (by omega), upd_ne _ _ _ _ (by omega)]; exact y1
      · simp only; rw [upd_ne _ _ _ _ (by omega), upd_ne _ _ _ _ (by omega)]; exact yx
      · exact upd_same _ _ _
      · simp only; rw [upd_ne _ _ _ _ (by omega), upd_ne _ _ _ _ (by omega), yr]
        exact congrArg some (congrArg _ (fnL_congr fun i hi => by simp [rsJ]))
    clear hne5 hzi5 y1 yx yr hf3 hoZ
    rintro j fe4 ob6 m6 c6 hj hm6 ⟨hji, hm7, w1, wx, w12, wr⟩
    simp (maxSteps := 1000000) only [go_sem, jjA, jjB, jjC, jjD, jjE, jjF, jjG, jjH, jjI, jjJ, ↓reduceIte, reduceCtorEq, w_app_nl] at hji hm6 hm7 w1 wx w12 wr
    try simp (maxSteps := 500000) (disch := omega) only [go_sem, jjA, jjB, jjC, jjD, jjE, jjF, jjG, jjH, jjI, jjJ, ↓reduceIte, reduceCtorEq, wrap_id, w_ite_ne, w_ite_lt, jjK, jjL, hji, ints_length]
    refine cond_d (fun hlt3 => ?_) (fun hge3 => ?_)
    · have hjl : j < l.length := by omega
      have hj2 : l[j]? = some l[j] := List.getElem?_eq_getElem hjl
      obtain ⟨i0, hi0, hri, hli⟩ := hmem l[j] (List.getElem_mem hjl)
      rw [hli] at hj2
      have hw0 := gW_get hi0
      have hfg := fnL_get (rsJ b L k l j) hi0
      have hst := @rsJ_set b L k j i0 b.ps.length l hj2
      have zr : ¬ 1 = m := by omega
      try simp (maxSteps := 500000) (disch := omega) only [go_sem, jjA, jjB, jjC, jjD, jjE, jjF, jjG, jjH, jjI, jjJ, ↓reduceIte, reduceCtorEq, wrap_id, w_ite_ne, w_ite_lt, jjK, jjL, hji, ints_length, ints_get, hj2, Option.map_some, wr, hfg, fnL_len]
      refine ⟨by omega, by omega, by omega, by omega, ?_⟩
      have zm : ¬ m = 1 := by omega
      have zx : ¬ xi = m := by omega
      have z3 : ¬ m3 = m := by omega
      refine gd_f rfl (fun hv => ?_) (fun hv => ?_)
      · try simp (maxSteps := 500000) (disch := omega) only [go_sem, jjA, jjB, jjC, jjD, jjE, jjF, jjG, jjH, jjI, jjJ, ↓reduceIte, reduceCtorEq, wrap_id, w_ite_ne, w_ite_lt, jjK, jjL, wr, fnL_len, hfg]
        refine ⟨by omega, by omega, ?_⟩
        rw [hst (v := true) (by rw [hv]; rfl)]
        try simp (maxSteps := 500000) (disch := omega) only [go_sem, jjA, jjB, jjC, jjD, jjE, jjF, jjG, jjH, jjI, jjJ, ↓reduceIte, reduceCtorEq, wrap_id, w_ite_ne, w_ite_lt, jjK, jjL, hji]
        refine up_nextG m6 hjl (by omega) ⟨(by first | ((try simp (maxSteps := 1000000) only [go_sem, jjA, jjB, jjC, jjD, jjE, jjF, jjG, jjH, jjI, jjJ, ↓reduceIte, reduceCtorEq, w_app_nl]); done) | ((try simp (maxSteps := 1000000) only [go_sem, jjA, jjB, jjC, jjD, jjE, jjF, jjG, jjH, jjI, jjJ, ↓reduceIte, reduceCtorEq, w_app_nl]); rfl) | ((try simp (maxSteps := 1000000) (disch := omega) only [go_sem, jjA, jjB, jjC, jjD, jjE, jjF, jjG, jjH, jjI, jjJ, ↓reduceIte, reduceCtorEq, w_app_nl, wrap_id, w_ite_ne, w_ite_lt]); rfl) | (simp (maxSteps := 1000000) (disch := omega) only [go_sem, jjA, jjB, jjC, jjD, jjE, jjF, jjG, jjH, jjI, jjJ, ↓reduceIte, reduceCtorEq, w_app_nl, wrap_id, w_ite_ne, w_ite_lt]; done)), by simp only [St.trunc]; omega, ?_, ?_, ?_, ?_⟩
        · rw [tr_ob (by omega), upd_ne _ _ _ _ zr]; exact w1
        · rw [tr_ob (by omega), upd_ne _ _ _ _ zx]; exact wx
        · rw [tr_ob (by omega), upd_ne _ _ _ _ z3]; exact w12
        · rw [tr_ob (by omega), upd_same]
      · try simp (maxSteps := 500000) (disch := omega) only [go_sem, jjA, jjB, jjC, jjD, jjE, jjF, jjG, jjH, jjI, jjJ, ↓reduceIte, reduceCtorEq, wrap_id, w_ite_ne, w_ite_lt, jjK, jjL, wr, w1, hki, hps, wts_length, wts_get, hw0, Option.map_some, wtv, hfg, fnL_len]
        refine ⟨by omega, by omega, by omega, by omega, ?_⟩
        rw [hst (v := decide ((k : Int) ≤ (gW b i0).ld)) (by rw [hv, Bool.false_or])]
        refine up_nextG m6 hjl (by omega) ⟨(by first | ((try simp (maxSteps := 1000000) only [go_sem, jjA, jjB, jjC, jjD, jjE, jjF, jjG, jjH, jjI, jjJ, ↓reduceIte, reduceCtorEq, w_app_nl]); done) | ((try simp (maxSteps := 1000000) only [go_sem, jjA, jjB, jjC, jjD, jjE, jjF, jjG, jjH, jjI, jjJ, ↓reduceIte, reduceCtorEq, w_app_nl]); rfl) | ((try simp (maxSteps := 1000000) (disch := omega) only [go_sem, jjA, jjB, jjC, jjD, jjE, jjF, jjG, jjH, jjI, jjJ, ↓reduceIte, reduceCtorEq, w_app_nl, wrap_id, w_ite_ne, w_ite_lt]); rfl) | (simp (maxSteps := 1000000) (disch := omega) only [go_sem, jjA, jjB, jjC, jjD, jjE, jjF, jjG, jjH, jjI, jjJ, ↓reduceIte, reduceCtorEq, w_app_nl, wrap_id, w_ite_ne, w_ite_lt]; done)), by simp only [St.trunc]; omega, ?_, ?_, ?_, ?_⟩
        · rw [tr_ob (by omega), upd_ne _ _ _ _ zr, w1, hps]
        · rw [tr_ob (by omega), upd_ne _ _ _ _ zx]; exact wx
        · rw [tr_ob (by omega), upd_ne _ _ _ _ z3]; exact w12
        · rw [tr_ob (by omega), upd_same]
    obtain rfl : j = l.length := by omega
    try simp (maxSteps := 500000) (disch := omega) only [go_sem, jjA, jjB, jjC, jjD, jjE, jjF, jjG, jjH, jjI, jjJ, ↓reduceIte, reduceCtorEq, wrap_id, w_ite_ne, w_ite_lt, jjK, jjL, w12, w1]
    have hfin : fnL b.ps.length (rsJ b L k l l.length) = fnL b.ps.length (rkB b L (k + 1)) := fnL_congr fun i hi => by
      simp only [rsJ, rkB, List.take_length, hmem2 i hi]
    refine up_nextG m6 hkl (by omega) ⟨(by first | ((try simp (maxSteps := 1000000) only [go_sem, jjA, jjB, jjC, jjD, jjE, jjF, jjG, jjH, jjI, jjJ, ↓reduceIte, reduceCtorEq, w_app_nl]); done) | ((try simp (maxSteps := 1000000) only [go_sem, jjA, jjB, jjC, jjD, jjE, jjF, jjG, jjH, jjI, jjJ, ↓reduceIte, reduceCtorEq, w_app_nl]); rfl) | ((try simp (maxSteps := 1000000) (disch := omega) only [go_sem, jjA, jjB, jjC, jjD, jjE, jjF, jjG, jjH, jjI, jjJ, ↓reduceIte, reduceCtorEq, w_app_nl, wrap_id, w_ite_ne, w_ite_lt]); rfl) | (simp (maxSteps := 1000000) (disch := omega) only [go_sem, jjA, jjB, jjC, jjD, jjE, jjF, jjG, jjH, jjI, jjJ, ↓reduceIte, reduceCtorEq, w_app_nl, wrap_id, w_ite_ne, w_ite_lt]; done)), by simp only [St.trunc]; omega, ?_, ?_, ?_⟩
    · rw [tr_ob (by omega), upd_same]
    · rw [tr_ob (by omega), upd_ne _ _ _ _ (by omega)]; exact wx
    · rw [tr_ob (by omega), upd_ne _ _ _ _ (by omega), wr, hfin]
  obtain rfl : k = 6 := by omega
  try simp (maxSteps := 500000) (disch := omega) only [go_sem, jjA, jjB, jjC, jjD, jjE, jjF, jjG, jjH, jjI, jjJ, ↓reduceIte, reduceCtorEq, wrap_id, w_ite_ne, w_ite_lt, jjK, jjL, wr, fnL_len]
  refine awp_upG [2, 17, 18, 19, 21, 111, 112, 113, 114, 115, 116, 117, 118, 119, 120, 121, 122, 123, 124, 125, 126, 127, 128, 129, 130, 131, 132] (by kernel_rfl) b.ps.length (fun i e σ => e 111 = .int .i64 i ∧ m2 ≤ σ.n ∧ σ.ob m = some ⟨c, 1, 4, false, true, fnL b.ps.length (rkB b L 6)⟩) ?_ ?_
  · exact ⟨(by first | ((try simp (maxSteps := 1000000) only [go_sem, jjA, jjB, jjC, jjD, jjE, jjF, jjG, jjH, jjI, jjJ, ↓reduceIte, reduceCtorEq, w_app_nl]); done) | ((try simp (maxSteps := 1000000) only [go_sem, jjA, jjB, jjC, jjD, jjE, jjF, jjG, jjH, jjI, jjJ, ↓reduceIte, reduceCtorEq, w_app_nl]); rfl) | ((try simp (maxSteps := 1000000) (disch := omega) only [go_sem, jjA, jjB, jjC, jjD, jjE, jjF, jjG, jjH, jjI, jjJ, ↓reduceIte, reduceCtorEq, w_app_nl, wrap_id, w_ite_ne, w_ite_lt]); rfl) | (simp (maxSteps := 1000000) (disch := omega) only [go_sem, jjA, jjB, jjC, jjD, jjE, jjF, jjG, jjH, jjI, jjJ, ↓reduceIte, reduceCtorEq, w_app_nl, wrap_id, w_ite_ne, w_ite_lt]; done)), Nat.le_refl _, wr⟩
  clear wr w1 wx hki
  rintro i fe3 ob3 m3 c3 hi hm4 ⟨hii, hm5, wr⟩
  simp (maxSteps := 1000000) only [go_sem, jjA, jjB, jjC, jjD, jjE, jjF, jjG, jjH, jjI, jjJ, ↓reduceIte, reduceCtorEq, w_app_nl] at hii hm4 hm5 wr
  try simp (maxSteps := 500000) (disch := omega) only [go_sem, jjA, jjB, jjC, jjD, jjE, jjF, jjG, jjH, jjI, jjJ, ↓reduceIte, reduceCtorEq, wrap_id, w_ite_ne, w_ite_lt, jjK, jjL, hii]
  refine cond_d (fun hlt4 => ?_) (fun hge4 => ?_)
  · have hil : i < b.ps.length := by omega
    have hfg := fnL_get (rkB b L 6) hil
    try simp (maxSteps := 500000) (disch := omega) only [go_sem, jjA, jjB, jjC, jjD, jjE, jjF, jjG, jjH, jjI, jjJ, ↓reduceIte, reduceCtorEq, wrap_id, w_ite_ne, w_ite_lt, jjK, jjL, hii, wr, fnL_len, hfg, ints_length]
    refine ⟨by omega, by omega, ?_⟩
    refine awp_upG [19, 21, 118, 119, 120, 121, 122, 123, 124, 125, 126, 127, 128] (by kernel_rfl) (ahdL b L).length (fun j e σ => e 118 = .int .i64 j ∧ m3 ≤ σ.n ∧ σ.ob m = some ⟨c, 1, 4, false, true, fnL b.ps.length (rkB b L 6)⟩ ∧ e 19 = .bool (decide ((i : Int) ∈ (ahdL b L).take j))) ?_ ?_
    · exact ⟨(by first | ((try simp (maxSteps := 1000000) only [go_sem, jjA, jjB, jjC, jjD, jjE, jjF, jjG, jjH, jjI, jjJ, ↓reduceIte, reduceCtorEq, w_app_nl]); done) | ((try simp (maxSteps := 1000000) only [go_sem, jjA, jjB, jjC, jjD, jjE, jjF, jjG, jjH, jjI, jjJ, ↓reduceIte, reduceCtorEq, w_app_nl]); rfl) | ((try simp (maxSteps := 1000000) (disch := omega) only [go_sem, jjA, jjB, jjC, jjD, jjE, jjF, jjG, jjH, jjI, jjJ, ↓reduceIte, reduceCtorEq, w_app_nl, wrap_id, w_ite_ne, w_ite_lt]); rfl) | (simp (maxSteps := 1000000) (disch := omega) only [go_sem, jjA, jjB, jjC, jjD, jjE, jjF, jjG, jjH, jjI, jjJ, ↓reduceIte, reduceCtorEq, w_app_nl, wrap_id, w_ite_ne, w_ite_lt]; done)), Nat.le_refl _, wr, by simp [upd]⟩
    rintro j fe4 ob4 m4 c4 hj hm6 ⟨hji, hm7, wr, h19⟩
    simp (maxSteps := 1000000) only [go_sem, jjA, jjB, jjC, jjD, jjE, jjF, jjG, jjH, jjI, jjJ, ↓reduceIte, reduceCtorEq, w_app_nl] at hji hm6 hm7 wr h19
    try simp (maxSteps := 500000) (disch := omega) only [go_sem, jjA, jjB, jjC, jjD, jjE, jjF, jjG, jjH, jjI, jjJ, ↓reduceIte, reduceCtorEq, wrap_id, w_ite_ne, w_ite_lt, jjK, jjL, hji, ints_length]
    refine cond_d (fun hlt5 => ?_) (fun hge5 => ?_)
    · have hjl : j < (ahdL b L).length := by omega
      have hj2 : (ahdL b L)[j]? = some (ahdL b L)[j] := List.getElem?_eq_getElem hjl
      generalize (ahdL b L)[j] = x at *
      have hnx : decide ((i : Int) ∈ (ahdL b L).take (j + 1)) = (decide ((i : Int) ∈ (ahdL b L).take j) || decide (x = (i : Int))) := by
        rw [List.take_add_one, hj2, Bool.eq_iff_iff]
        simp only [Option.toList_some, List.mem_append, List.mem_singleton, Bool.or_eq_true, decide_eq_true_eq]
        exact or_congr Iff.rfl ⟨Eq.symm, Eq.symm⟩
      try simp (maxSteps := 500000) (disch := omega) only [go_sem, jjA, jjB, jjC, jjD, jjE, jjF, jjG, jjH, jjI, jjJ, ↓reduceIte, reduceCtorEq, wrap_id, w_ite_ne, w_ite_lt, jjK, jjL, hji, ints_length, ints_get, hj2, Option.map_some, h19]
      refine ⟨by omega, by omega, ?_⟩
      refine gd_f rfl (fun hv => ?_) (fun hv => ?_)
      · try simp (maxSteps := 500000) (disch := omega) only [go_sem, jjA, jjB, jjC, jjD, jjE, jjF, jjG, jjH, jjI, jjJ, ↓reduceIte, reduceCtorEq, wrap_id, w_ite_ne, w_ite_lt, jjK, jjL, hji]
        refine up_nextG m4 hjl (by omega) ⟨(by first | ((try simp (maxSteps := 1000000) only [go_sem, jjA, jjB, jjC, jjD, jjE, jjF, jjG, jjH, jjI, jjJ, ↓reduceIte, reduceCtorEq, w_app_nl]); done) | ((try simp (maxSteps := 1000000) only [go_sem, jjA, jjB, jjC, jjD, jjE, jjF, jjG, jjH, jjI, jjJ, ↓reduceIte, reduceCtorEq, w_app_nl]); rfl) | ((try simp (maxSteps := 1000000) (disch := omega) only [go_sem, jjA, jjB, jjC, jjD, jjE, jjF, jjG, jjH, jjI, jjJ, ↓reduceIte, reduceCtorEq, w_app_nl, wrap_id, w_ite_ne, w_ite_lt]); rfl) | (simp (maxSteps := 1000000) (disch := omega) only [go_sem, jjA, jjB, jjC, jjD, jjE, jjF, jjG, jjH, jjI, jjJ, ↓reduceIte, reduceCtorEq, w_app_nl, wrap_id, w_ite_ne, w_ite_lt]; done)), by simp only [St.trunc]; omega, by rw [tr_ob (by omega)]; exact wr, ?_⟩
        rw [hnx, hv]
        simp [upd]
      · try simp (maxSteps := 500000) (disch := omega) only [go_sem, jjA, jjB, jjC, jjD, jjE, jjF, jjG, jjH, jjI, jjJ, ↓reduceIte, reduceCtorEq, wrap_id, w_ite_ne, w_ite_lt, jjK, jjL, hji]
        refine up_nextG m4 hjl (by omega) ⟨(by first | ((try simp (maxSteps := 1000000) only [go_sem, jjA, jjB, jjC, jjD, jjE, jjF, jjG, jjH, jjI, jjJ, ↓reduceIte, reduceCtorEq, w_app_nl]); done) | ((try simp (maxSteps := 1000000) only [go_sem, jjA, jjB, jjC, jjD, jjE, jjF, jjG, jjH, jjI, jjJ, ↓reduceIte, reduceCtorEq, w_app_nl]); rfl) | ((try simp (maxSteps := 1000000) (disch := omega) only [go_sem, jjA, jjB, jjC, jjD, jjE, jjF, jjG, jjH, jjI, jjJ, ↓reduceIte, reduceCtorEq, w_app_nl, wrap_id, w_ite_ne, w_ite_lt]); rfl) | (simp (maxSteps := 1000000) (disch := omega) only [go_sem, jjA, jjB, jjC, jjD, jjE, jjF, jjG, jjH, jjI, jjJ, ↓reduceIte, reduceCtorEq, w_app_nl, wrap_id, w_ite_ne, w_ite_lt]; done)), by simp only [St.trunc]; omega, by rw [tr_ob (by omega)]; exact wr, ?_⟩
        rw [hnx, hv]
        simp [upd]
    obtain rfl : j = (ahdL b L).length := by omega
    rw [List.take_length] at h19
    have hla := ahead_law hB hil (hg6 i hil).1
    have hme : decide ((i : Int) ∈ ahdL b L) = rkB b L 6 i := by
      rw [hla, haL, Bool.eq_iff_iff, decide_eq_true_eq, selL_mem]
      constructor
      · rintro ⟨i2, h1, h2, h3⟩
        obtain rfl : i = i2 := by omega
        exact h2
      · exact fun h => ⟨i, hil, h, rfl⟩
    rw [hme] at h19
    try simp (maxSteps := 500000) (disch := omega) only [go_sem, jjA, jjB, jjC, jjD, jjE, jjF, jjG, jjH, jjI, jjJ, ↓reduceIte, reduceCtorEq, wrap_id, w_ite_ne, w_ite_lt, jjK, jjL, h19, hii, decide_true, Bool.not_true]
    refine up_nextG m4 hil (by omega) ⟨(by first | ((try simp (maxSteps := 1000000) only [go_sem, jjA, jjB, jjC, jjD, jjE, jjF, jjG, jjH, jjI, jjJ, ↓reduceIte, reduceCtorEq, w_app_nl]); done) | ((try simp (maxSteps := 1000000) only [go_sem, jjA, jjB, jjC, jjD, jjE, jjF, jjG, jjH, jjI, jjJ, ↓reduceIte, reduceCtorEq, w_app_nl]); rfl) | ((try simp (maxSteps := 1000000) (disch := omega) only [go_sem, jjA, jjB, jjC, jjD, jjE, jjF, jjG, jjH, jjI, jjJ, ↓reduceIte, reduceCtorEq, w_app_nl, wrap_id, w_ite_ne, w_ite_lt]); rfl) | (simp (maxSteps := 1000000) (disch := omega) only [go_sem, jjA, jjB, jjC, jjD, jjE, jjF, jjG, jjH, jjI, jjJ, ↓reduceIte, reduceCtorEq, w_app_nl, wrap_id, w_ite_ne, w_ite_lt]; done)), by simp only [St.trunc]; omega, by rw [tr_ob (by omega)]; exact wr⟩
  try simp (maxSteps := 500000) (disch := omega) only [go_sem, jjA, jjB, jjC, jjD, jjE, jjF, jjG, jjH, jjI, jjJ, ↓reduceIte, reduceCtorEq, wrap_id, w_ite_ne, w_ite_lt, jjK, jjL]
  exact Pub.pure rfl
theorem law_law36_WarningAhead {c0 : List AV} (s0 : (Sh.slice 1 (.int .i64)).R c0) : PC prog n_law36_WarningAhead [(Sh.slice 1 (.int .i64)).mk1 c0] (.bool true) := by
  obtain ⟨l0, rfl, _, _⟩ := shInts s0
  exact ok_law36_WarningAhead l0
end Go.Proofs.Try
