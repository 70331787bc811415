/-
  OWN WORK, put together by tools/asm.py: what functions do.
-/
import Derived.Test.YtekndbmlkheddaaLibF
set_option linter.unusedSimpArgs false
set_option linter.unusedVariables false
set_option maxRecDepth 100000
set_option maxHeartbeats 1000000
namespace Go.Proofs.Try
open Go.Ab Go
open Int renaming reduceEq → jjA, reduceLT → jjB, reduceLE → jjC, reduceToNat → jjD
open Nat renaming reduceLT → jjE, reduceEqDiff → jjF, reduceAdd → jjG, reduceLeDiff → jjH, reduceSub → jjI, reduceMul → jjJ, sub_zero → jjK, sub_self → jjL
theorem call_rod {P : Program} {σ : St} {f : Nat} {args args' : List AV} {r : AV} {K : AV → St → Prop} (d : Nat) (o : AObj) (ho : σ.ob d = some o) (h : PC P f args' r) (hp : Lent ⟨fun i => if decide (i ≠ d) then none else σ.ob i, σ.n, σ.c⟩ args args') (ha : ∀ a ∈ args', a.pur = true)
    (hK : ∀ ob', (∀ j, j ≠ d → ob' j = σ.ob j) → ob' d = some { o with ro := true } → K r ⟨ob', σ.n, σ.c⟩) : HC P f args σ K :=
  call_ro (fun i => decide (i ≠ d)) h hp ha (hK _ (fun j hj => by simp [hj]) (by simp [ho]))
theorem ahd_len (x : Bo) (N : List (List Int)) (h : BoL x) : (ahdL x N).length ≤ 9223372036854775807 := by
  rw [ahdL]
  have h1 := selL_len (ahdI x N) x.ps.length
  have h2 := h.p
  split
  · omega
  · simp
theorem see_len (x : Bo) (N : List Int) (h : BoL x) : (seeR x N).2.length ≤ 9223372036854775807 := by
  rw [seeR]
  have h1 := selL_len (roseI x N) x.ps.length
  have h2 := h.p
  split
  · simp only; omega
  · simp
theorem see_sz (x : Bo) (N : List Int) (h : BoL x) : BoL (seeR x N).1 := by
  rw [seeR]
  split
  · rename_i e
    rw [seeE] at e
    split at e
    · omega
    · rename_i h1
      split at e
      · omega
      · rename_i h2
        split at e
        · omega
        · rename_i h3
          exact ((vdB_iff.1 (by simpa using h1)).see (by simpa using h2) (by simpa using h3)).sz
  · exact ⟨by simp [boZ], by simp [boZ], by simp [boZ], by simp [boZ], by simp [boZ]⟩
theorem open_sz (l : List Wt) : BoL (openR l) := by
  rw [openR]
  split
  · rename_i e
    exact (Vb.open e).sz
  · exact ⟨by simp [boZ], by simp [boZ], by simp [boZ], by simp [boZ], by simp [boZ]⟩
theorem act_len (x : Bo) (n : Int) (h : BoL x) : ((actO x n).getD wnZ).cs.length ≤ 9223372036854775807 := by
  cases e : actO x n with
  | none => simp [wnZ]
  | some w =>
    rw [actO] at e
    split at e
    · exact h.c w (List.mem_of_find?_eq_some e)
    · cases e
theorem lls_len (l : List (List Int)) : (lls l).length = l.length := by simp [lls]
/-! arguments by shape: boards, causes, lists of lists -/
abbrev shI : Sh := .int .i64
abbrev shWt : Sh := .struct (.fc shI (.fc shI (.fc shI (.fc shI .f0))))
abbrev shCs : Sh := .struct (.fc shI (.fc shI .f0))
abbrev shWn : Sh := .struct (.fc shI (.fc shI (.fc (.slice 2 shCs) (.fc shI .f0))))
abbrev shLls : Sh := .slice 1 (.slice 1 shI)
abbrev shBo : Sh := .struct (.fc (.slice 4 shWt) (.fc shLls (.fc (.slice 4 shWn) .f0)))
theorem shCsR {c : List AV} (h : shCs.R c) : ∃ b : Cs, shCs.mk1 c = csv b := by
  obtain ⟨x, y, rfl, ⟨a, rfl, _⟩, z, w, rfl, ⟨b, rfl, _⟩, rfl⟩ := h
  exact ⟨⟨a, b⟩, rfl⟩
theorem shCssR {c : List AV} (h : (Sh.slice 2 shCs).R c) : ∃ L : List Cs, c = [.list 2 (css L)] ∧ L.length ≤ 9223372036854775807 := by
  obtain ⟨xs, rfl, hl, h⟩ := h
  obtain ⟨L, rfl, hL⟩ := exists_map (f := csv) (Q := fun _ => True) fun x hx => by
    obtain ⟨cs, hr, _, rfl⟩ := h x hx
    obtain ⟨b, hb⟩ := shCsR hr
    exact ⟨b, trivial, hb⟩
  exact ⟨L, rfl, by simpa using hl⟩
theorem shWtR {c : List AV} (h : shWt.R c) : ∃ b : Wt, shWt.mk1 c = wtv b := by
  obtain ⟨x1, y1, rfl, ⟨a, rfl, _⟩, x2, y2, rfl, ⟨b, rfl, _⟩, x3, y3, rfl, ⟨d, rfl, _⟩, x4, y4, rfl, ⟨e, rfl, _⟩, rfl⟩ := h
  exact ⟨⟨a, b, d, e⟩, rfl⟩
theorem shWtsR {c : List AV} (h : (Sh.slice 4 shWt).R c) : ∃ L : List Wt, c = [.list 4 (wts L)] ∧ L.length ≤ 9223372036854775807 := by
  obtain ⟨xs, rfl, hl, h⟩ := h
  obtain ⟨L, rfl, hL⟩ := exists_map (f := wtv) (Q := fun _ => True) fun x hx => by
    obtain ⟨cs, hr, _, rfl⟩ := h x hx
    obtain ⟨b, hb⟩ := shWtR hr
    exact ⟨b, trivial, hb⟩
  exact ⟨L, rfl, by simpa using hl⟩
theorem shWnR {c : List AV} (h : shWn.R c) : ∃ b : Wn, b.cs.length ≤ 9223372036854775807 ∧ shWn.mk1 c = wnv b := by
  obtain ⟨x1, y1, rfl, ⟨a, rfl, _⟩, x2, y2, rfl, ⟨b, rfl, _⟩, x3, y3, rfl, h3, x4, y4, rfl, ⟨e, rfl, _⟩, rfl⟩ := h
  obtain ⟨L, rfl, hL⟩ := shCssR h3
  exact ⟨⟨a, b, L, e⟩, hL, rfl⟩
theorem shWnsR {c : List AV} (h : (Sh.slice 4 shWn).R c) : ∃ L : List Wn, c = [.list 4 (wns L)] ∧ L.length ≤ 9223372036854775807 ∧ ∀ w ∈ L, w.cs.length ≤ 9223372036854775807 := by
  obtain ⟨xs, rfl, hl, h⟩ := h
  obtain ⟨L, rfl, hL⟩ := exists_map (f := wnv) (Q := fun w => w.cs.length ≤ 9223372036854775807) fun x hx => by
    obtain ⟨cs, hr, _, rfl⟩ := h x hx
    obtain ⟨b, hb1, hb⟩ := shWnR hr
    exact ⟨b, hb1, hb⟩
  exact ⟨L, rfl, by simpa using hl, hL⟩
theorem shLlsR {c : List AV} (h : shLls.R c) : ∃ L : List (List Int), c = [.list 1 (lls L)] ∧ L.length ≤ 9223372036854775807 ∧ ∀ l ∈ L, l.length ≤ 9223372036854775807 := by
  obtain ⟨xs, rfl, hl, h⟩ := h
  obtain ⟨L, rfl, hL⟩ := exists_map (f := fun l => AV.list 1 (ints l)) (Q := fun w => w.length ≤ 9223372036854775807) fun x hx => by
    obtain ⟨cs, hr, _, rfl⟩ := h x hx
    obtain ⟨l, rfl, hl, _⟩ := shInts hr
    exact ⟨l, hl, rfl⟩
  exact ⟨L, rfl, by simpa using hl, hL⟩
theorem shBoR {c : List AV} (h : shBo.R c) : ∃ b : Bo, shBo.mk1 c = bov b ∧ BoL b := by
  obtain ⟨x1, y1, rfl, h1, x2, y2, rfl, h2, x3, y3, rfl, h3, rfl⟩ := h
  obtain ⟨L1, rfl, l1⟩ := shWtsR h1
  obtain ⟨L2, rfl, l2, m2⟩ := shLlsR h2
  obtain ⟨L3, rfl, l3, m3⟩ := shWnsR h3
  exact ⟨⟨L1, L2, L3⟩, rfl, l1, l2, m2, l3, m3⟩
/-! WarningAhead, in plain terms -/
theorem firstGo_iff (w k : Int) : ∀ (l : List Int) (j : Nat) (p : List Int), (firstGo w k j p l).2 = true ↔ ∃ i x, l[i]? = some x ∧ k < riseS (p ++ l.take i) w x
  | [], j, p => by simp [firstGo]
  | y :: r, j, p => by
    rw [firstGo]
    split
    · rename_i h
      exact ⟨fun _ => ⟨0, y, rfl, by simpa using h⟩, fun _ => rfl⟩
    · rename_i h
      rw [firstGo_iff w k r (j + 1) (p ++ [y])]
      constructor
      · rintro ⟨i, x, h1, h2⟩
        exact ⟨i + 1, x, by simpa using h1, by simpa using h2⟩
      · rintro ⟨i, x, h1, h2⟩
        cases i with
        | zero => simp at h1; subst h1; simp at h2; exact absurd h2 h
        | succ i => exact ⟨i, x, by simpa using h1, by simpa using h2⟩
theorem lastW_app (l r : List Int) (w : Int) : lastW (lastW l w ++ r) w = lastW (l ++ r) w := by
  simp only [lastW, List.length_append, List.length_drop]
  rw [← List.drop_append_of_le_length (by omega), List.drop_drop]
  congr 1
  omega
theorem lastW_congr {l l' : List Int} {w : Int} (h : lastW l w = lastW l' w) (r : List Int) : lastW (l ++ r) w = lastW (l' ++ r) w := by
  rw [← lastW_app l, ← lastW_app l', h]
theorem lastW_idem (l : List Int) (w : Int) : lastW (lastW l w) w = lastW l w := by
  have := lastW_app l [] w
  simpa using this
theorem riseS_congr {l l' : List Int} {w f : Int} (hw : 1 ≤ w) (h : lastW l w = lastW l' w) : riseS l w f = riseS l' w f := by
  have he : l = [] ↔ l' = [] := by
    constructor
    · rintro rfl
      refine Classical.byContradiction fun e => lastW_ne hw e ?_
      rw [← h]; simp [lastW]
    · rintro rfl
      refine Classical.byContradiction fun e => lastW_ne hw e ?_
      rw [h]; simp [lastW]
  have : leastR l w = leastR l' w := by
    simp only [leastR, he, h]
  rw [riseS, riseS, this]
def nowK (n : Nat) (next : List (List Int)) (k : Nat) : List Int := (List.range n).map fun i => gN (gX next i) k
/-- the board after k rounds -/
def stK (b : Bo) (next : List (List Int)) : Nat → Bo
  | 0 => b
  | k + 1 => seeB (stK b next k) (nowK b.ps.length next k)
/-- a point that has risen in time, in the first k rounds -/
def rkB (b : Bo) (next : List (List Int)) : Nat → Nat → Bool
  | 0, _ => false
  | k + 1, i => rkB b next k i || (roseI (stK b next k) (nowK b.ps.length next k) i && decide ((k : Int) ≤ (gW b i).ld))
theorem nowK_len (n : Nat) (next : List (List Int)) (k : Nat) : (nowK n next k).length = n := by simp [nowK]
theorem nowK_get {n i : Nat} (next : List (List Int)) (k : Nat) (h : i < n) : gN (nowK n next k) i = gN (gX next i) k := by
  simp [gN, nowK, List.getD_eq_getElem?_getD, List.getElem?_map, List.getElem?_range h]
theorem nowK_fls {n : Nat} {next : List (List Int)} {k : Nat} (h : ∀ i, i < n → flB (gN (gX next i) k) = true) : flsB (nowK n next k) = true := by
  rw [flsB, List.all_eq_true]
  intro x hx
  obtain ⟨i, hi, rfl⟩ := List.mem_map.1 hx
  exact h i (List.mem_range.1 hi)
theorem stK_ps (b : Bo) (next : List (List Int)) (k : Nat) : (stK b next k).ps = b.ps := by
  induction k with
  | zero => rfl
  | succ k ih => simp only [stK, seeB]; exact ih
theorem stK_vb {b : Bo} {next : List (List Int)} (hb : Vb b) (h : ∀ i k, flB (gN (gX next i) k) = true) (k : Nat) : Vb (stK b next k) := by
  induction k with
  | zero => exact hb
  | succ k ih => exact ih.see (by rw [nowK_len, stK_ps]) (nowK_fls fun i _ => h i k)
theorem seeB_gL {b : Bo} {now : List Int} {i : Nat} (h : i < b.ps.length) : gL (seeB b now) i = pastI b now i := by
  simp [gL, seeB, List.getD_eq_getElem?_getD, List.getElem?_map, List.getElem?_range h]
theorem stK_gW (b : Bo) (next : List (List Int)) (k i : Nat) : gW (stK b next k) i = gW b i := by rw [gW, gW, stK_ps]
theorem stK_past {b : Bo} {next : List (List Int)} {i : Nat} (hi : i < b.ps.length) (k : Nat) (hk : k ≤ (gX next i).length) : lastW (gL (stK b next k) i) (gW b i).w = lastW (gL b i ++ (gX next i).take k) (gW b i).w := by
  induction k with
  | zero => simp [stK]
  | succ k ih =>
    have hk2 : k < (gX next i).length := by omega
    rw [stK, seeB_gL (by rw [stK_ps]; exact hi), pastI, stK_gW, lastW_idem, nowK_get next k hi, lastW_congr (ih (by omega)), List.append_assoc, List.take_add_one, gN_get hk2]
    rfl
theorem rk_iff (b : Bo) (next : List (List Int)) (k i : Nat) : rkB b next k i = true ↔ ∃ j, j < k ∧ (j : Int) ≤ (gW b i).ld ∧ roseI (stK b next j) (nowK b.ps.length next j) i = true := by
  induction k with
  | zero => simp [rkB]
  | succ k ih =>
    rw [rkB, Bool.or_eq_true, ih, Bool.and_eq_true, decide_eq_true_eq]
    constructor
    · rintro (⟨j, h1, h2⟩ | ⟨h1, h2⟩)
      · exact ⟨j, by omega, h2⟩
      · exact ⟨k, by omega, h2, h1⟩
    · rintro ⟨j, h1, h2, h3⟩
      rcases Nat.eq_or_lt_of_le (show j ≤ k by omega) with rfl | h
      · exact .inr ⟨h3, h2⟩
      · exact .inl ⟨j, h, h2, h3⟩
theorem ahead_law {b : Bo} {next : List (List Int)} {i : Nat} (hb : Bd0 b) (hi : i < b.ps.length) (h6 : (gX next i).length = 6) : rkB b next 6 i = ahdI b next i := by
  have hw := hb.p.2.2 _ (List.mem_of_getElem? (gW_get hi))
  obtain ⟨-, ⟨hw1, hw2⟩, -, hl1, hl2⟩ := hw
  rw [Bool.eq_iff_iff, rk_iff, ahdI, firstGo_iff, nxtI]
  have hro : ∀ j, j < 6 → (roseI (stK b next j) (nowK b.ps.length next j) i = true ↔ (gW b i).lim < riseS (gL b i ++ (gX next i).take j) (gW b i).w (gN (gX next i) j)) := fun j hj => by
    rw [roseI, decide_eq_true_eq, stK_gW, nowK_get next j hi, riseS_congr hw1 (stK_past hi j (by omega))]
  constructor
  · rintro ⟨j, h1, h2, h3⟩
    rw [hro j h1] at h3
    refine ⟨j, gN (gX next i) j, ?_, ?_⟩
    · rw [List.getElem?_take, if_pos (by omega)]; exact gN_get (by omega)
    · rw [List.take_take, Nat.min_eq_left (by omega)]; exact h3
  · rintro ⟨j, x, h1, h2⟩
    have hj : j < ((gW b i).ld + 1).toNat := by
      have := (List.getElem?_eq_some_iff.1 h1).1
      rw [List.length_take] at this
      omega
    rw [List.getElem?_take, if_pos hj, gN_get (by omega)] at h1
    obtain rfl := Option.some.inj h1
    rw [List.take_take, Nat.min_eq_left (by omega)] at h2
    exact ⟨j, by omega, by omega, (hro j (by omega)).2 h2⟩
/-! flags by number -/
def fnL (n : Nat) (f : Nat → Bool) : List AV := (List.range n).map fun i => .bool (f i)
theorem fnL_len (n : Nat) (f : Nat → Bool) : (fnL n f).length = n := by simp [fnL]
theorem fnL_get {n i : Nat} (f : Nat → Bool) (h : i < n) : (fnL n f)[i]? = some (.bool (f i)) := by simp [fnL, List.getElem?_range h]
theorem fnL_set {n i : Nat} {f g : Nat → Bool} {v : Bool} (h : ∀ j, j < n → g j = if j = i then v else f j) : (fnL n f).set i (.bool v) = fnL n g := by
  apply List.ext_getElem?
  intro j
  rw [List.getElem?_set]
  by_cases hj : j < n
  · by_cases e : i = j
    · subst e; simp [fnL, hj, h i hj]
    · rw [if_neg e, fnL_get _ hj, fnL_get _ hj, h j hj, if_neg (fun e2 => e e2.symm)]
  · have e1 : (fnL n f)[j]? = none := List.getElem?_eq_none (by rw [fnL_len]; omega)
    have e2 : (fnL n g)[j]? = none := List.getElem?_eq_none (by rw [fnL_len]; omega)
    rw [e1, e2]
    split
    · rw [if_neg (by rw [fnL_len]; omega)]
    · rfl
theorem fnL_false (n : Nat) : List.replicate n (.bool false) = fnL n fun _ => false := by
  apply List.ext_getElem?
  intro j
  by_cases hj : j < n
  · rw [fnL_get _ hj, List.getElem?_replicate, if_pos hj]
  · rw [List.getElem?_eq_none (by simp; omega), List.getElem?_eq_none (by rw [fnL_len]; omega)]
theorem fnL_congr {n : Nat} {f g : Nat → Bool} (h : ∀ i, i < n → f i = g i) : fnL n f = fnL n g := by
  rw [fnL, fnL]
  exact List.map_congr_left fun i hi => by rw [h i (List.mem_range.1 hi)]
/-- rose, after j of the points that rise in round k -/
def rsJ (b : Bo) (L : List (List Int)) (k : Nat) (l : List Int) (j i : Nat) : Bool := rkB b L k i || (decide ((i : Int) ∈ l.take j) && decide ((k : Int) ≤ (gW b i).ld))
theorem rsJ_set {b : Bo} {L : List (List Int)} {k j i0 n : Nat} {l : List Int} (h : l[j]? = some (i0 : Int)) {v : Bool} (hv : v = (rsJ b L k l j i0 || decide ((k : Int) ≤ (gW b i0).ld))) : (fnL n (rsJ b L k l j)).set i0 (.bool v) = fnL n (rsJ b L k l (j + 1)) := by
  refine fnL_set fun i hi => ?_
  have hm : ((i : Int) ∈ l.take (j + 1)) ↔ ((i : Int) ∈ l.take j ∨ i = i0) := by
    have e2 : ((i : Int) = (i0 : Int)) ↔ i = i0 := by omega
    rw [List.take_add_one, h]
    simp [e2]
  by_cases e : i = i0
  · subst e
    rw [if_pos rfl, hv]
    simp only [rsJ, hm, or_true, decide_true, Bool.true_and]
    cases rkB b L k i <;> cases decide ((i : Int) ∈ l.take j) <;> cases decide ((k : Int) ≤ (gW b i).ld) <;> rfl
  · rw [if_neg e]
    simp only [rsJ, hm, e, or_false]
/-! WarningWindow, in plain terms -/
def WinR (b c s : Bo) (k : Nat) : Prop := ∀ i, i < b.ps.length → ∃ (H F : List Int), F.length = k ∧ lastW (gL c i) (gW b i).w = lastW (H ++ F) (gW b i).w ∧ lastW (gL s i) (gW b i).w = lastW F (gW b i).w
theorem gW_ps {b c : Bo} (h : c.ps = b.ps) (i : Nat) : gW c i = gW b i := by rw [gW, gW, h]
theorem WinR.init (b c : Bo) (ac : List Wn) : WinR b c ⟨b.ps, List.replicate b.ps.length [], ac⟩ 0 := fun i hi => by
  refine ⟨gL c i, [], rfl, by rw [List.append_nil], ?_⟩
  have : gL ⟨b.ps, List.replicate b.ps.length [], ac⟩ i = [] := by simp [gL, List.getD_eq_getElem?_getD, List.getElem?_replicate, hi]
  rw [this]
theorem WinR.step {b c s : Bo} {k : Nat} (h : WinR b c s k) (hc : c.ps = b.ps) (hs : s.ps = b.ps) (l : List Int) : WinR b (seeB c l) (seeB s l) (k + 1) := fun i hi => by
  obtain ⟨H, F, h1, h2, h3⟩ := h i hi
  refine ⟨H, F ++ [gN l i], by simp [h1], ?_, ?_⟩
  · rw [seeB_gL (by rw [hc]; exact hi), pastI, gW_ps hc, lastW_idem, lastW_congr h2, List.append_assoc]
  · rw [seeB_gL (by rw [hs]; exact hi), pastI, gW_ps hs, lastW_idem, lastW_congr h3]
theorem lastW_long {H F : List Int} {w : Int} (h : w.toNat ≤ F.length) : lastW (H ++ F) w = lastW F w := by
  simp only [lastW, List.length_append]
  rw [List.drop_append, List.drop_of_length_le (by omega)]
  simp only [List.nil_append]
  congr 1
  omega
theorem WinR.rose {b c s : Bo} (h : WinR b c s 4) (hc : c.ps = b.ps) (hs : s.ps = b.ps) {i : Nat} (hi : i < b.ps.length) (h1 : 1 ≤ (gW b i).w) (h4 : (gW b i).w ≤ 4) (now : List Int) : roseI c now i = roseI s now i := by
  obtain ⟨H, F, h5, h2, h3⟩ := h i hi
  rw [roseI, roseI, gW_ps hc, gW_ps hs, riseS_congr h1 (h2.trans ((lastW_long (by omega)).trans h3.symm))]
theorem ints_set1 (l : List Int) (i : Nat) (x : Int) : (ints l).set i (.int .i64 x) = ints (l.set i x) := by simp [ints, List.map_set]
theorem flsB_of {L : List Int} {m : Int} (h : ∀ x ∈ L, 0 ≤ x ∧ x < m) (hm : m ≤ 1000) : flsB L = true := by
  rw [flsB, List.all_eq_true]
  intro x hx
  have := h x hx
  simp [flB, inW]; omega
theorem has_sel {p : Nat → Bool} {n i : Nat} (h : i < n) : decide ((i : Int) ∈ selL p n) = p i := by
  rw [Bool.eq_iff_iff, decide_eq_true_eq, selL_mem]
  constructor
  · rintro ⟨i2, h1, h2, h3⟩
    obtain rfl : i = i2 := by omega
    exact h2
  · exact fun h2 => ⟨i, h, h2, rfl⟩
theorem see_ok {c : Bo} {now : List Int} (h : Vb c) (hn : now.length = c.ps.length) (hf : flsB now = true) : seeV c now = .tuple [bov (seeB c now), .list 1 (ints (selL (roseI c now) c.ps.length)), .int .i64 0] := by
  rw [seeV, seeR, see_e0 (vdB_iff.2 h) hn hf, if_pos rfl]
theorem ok_law36_WarningWindow (t old : List Int) (point : Int) (hol : old.length ≤ 9223372036854775807) (hp : 0 ≤ point ∧ point ≤ 255) : PC prog n_law36_WarningWindow [.list 1 (ints t), .list 1 (ints old), .int .u8 point] (.bool true) := by
  refine PC_of_body b_law36_WarningWindow (by simp) ?_
  simp only [c_law36_WarningWindow, go_sem, jjA, jjB, jjC, jjD, jjE, jjF, jjG, jjH, jjI, jjJ, ↓reduceIte, reduceCtorEq, w_app_nl]
  try simp (maxSteps := 500000) (disch := omega) only [go_sem, jjA, jjB, jjC, jjD, jjE, jjF, jjG, jjH, jjI, jjJ, ↓reduceIte, reduceCtorEq, wrap_id, w_ite_ne, w_ite_lt, jjK, jjL]
  refine call_pc ok_law36_sane (by simp) ?_
  try simp (maxSteps := 500000) (disch := omega) only [go_sem, jjA, jjB, jjC, jjD, jjE, jjF, jjG, jjH, jjI, jjJ, ↓reduceIte, reduceCtorEq, wrap_id, w_ite_ne, w_ite_lt, jjK, jjL]
  refine call_pc (ok_mk_Few t) (by simp [go_sem]) ?_
  try simp (maxSteps := 500000) (disch := omega) only [go_sem, jjA, jjB, jjC, jjD, jjE, jjF, jjG, jjH, jjI, jjJ, ↓reduceIte, reduceCtorEq, wrap_id, w_ite_ne, w_ite_lt, jjK, jjL]
  cases hfew : fewB t
  · try simp (maxSteps := 500000) (disch := omega) only [go_sem, jjA, jjB, jjC, jjD, jjE, jjF, jjG, jjH, jjI, jjJ, ↓reduceIte, reduceCtorEq, wrap_id, w_ite_ne, w_ite_lt, jjK, jjL]
    exact Pub.pure rfl
  have hlt : t.length ≤ 9223372036854775807 := by simp [fewB] at hfew; omega
  try simp (maxSteps := 500000) (disch := omega) only [go_sem, jjA, jjB, jjC, jjD, jjE, jjF, jjG, jjH, jjI, jjJ, ↓reduceIte, reduceCtorEq, wrap_id, w_ite_ne, w_ite_lt, jjK, jjL, ints_length]
  refine cond_d (fun hv => ?_) (fun hv => ?_) <;> try simp (maxSteps := 500000) (disch := omega) only [go_sem, jjA, jjB, jjC, jjD, jjE, jjF, jjG, jjH, jjI, jjJ, ↓reduceIte, reduceCtorEq, wrap_id, w_ite_ne, w_ite_lt, jjK, jjL]
  · exact Pub.pure rfl
  clear hv
  refine call_hc (ok_mk_New _ t) ?_
  try simp (maxSteps := 500000) (disch := omega) only [go_sem, jjA, jjB, jjC, jjD, jjE, jjF, jjG, jjH, jjI, jjJ, ↓reduceIte, reduceCtorEq, wrap_id, w_ite_ne, w_ite_lt, jjK, jjL]
  refine (hc_flow_Board _ 0 0 t 0 hlt (by simp only [St.push]; omega) (by try simp (maxSteps := 500000) (disch := omega) only [go_sem, jjA, jjB, jjC, jjD, jjE, jjF, jjG, jjH, jjI, jjJ, ↓reduceIte, reduceCtorEq, wrap_id, w_ite_ne, w_ite_lt, jjK, jjL])).mono ?_
  intro r τ hD
  obtain ⟨⟨b, rfl, hB⟩, hn, ⟨at1, hd⟩, -⟩ := hD.use (by simp only [St.push]; omega)
  obtain ⟨ob1, m1, c1⟩ := τ
  simp only [St.push] at hn hd
  subst hn
  clear hD
  have hV := hB.v
  have hl1 := hB.p.1
  have hl3 := hB.p.2.1
  have hwe : watE b.ps = 0 := watE_ok.2 ⟨hV.p, List.all_eq_true.2 hV.w⟩
  have hop := ok_warning_Open b.ps (by omega)
  rw [openV, openR, hwe, if_pos rfl] at hop
  have hvo := Vb.open hwe
  simp only [bov] at hop
  try simp (maxSteps := 500000) (disch := omega) only [go_sem, jjA, jjB, jjC, jjD, jjE, jjF, jjG, jjH, jjI, jjJ, ↓reduceIte, reduceCtorEq, wrap_id, w_ite_ne, w_ite_lt, jjK, jjL, bov]
  refine call_pc hop (by simp [go_sem, wts_pur]) ?_
  try simp (maxSteps := 500000) (disch := omega) only [go_sem, jjA, jjB, jjC, jjD, jjE, jjF, jjG, jjH, jjI, jjJ, ↓reduceIte, reduceCtorEq, wrap_id, w_ite_ne, w_ite_lt, jjK, jjL]
  have hvc : Vb ⟨b.ps, List.replicate b.ps.length [], b.ac⟩ := ⟨hvo.p, hvo.q, hvo.w, hvo.l, hV.c⟩
  refine awp_upG [6, 10, 12, 13, 54, 55, 56, 57, 58, 59, 60, 61, 62, 63, 64, 65, 66, 67, 68, 69, 70, 71, 72, 73, 74, 75, 76, 77, 78, 79, 80, 81] (by kernel_rfl) old.length (fun k e σ => e 54 = .int .i64 k ∧ 3 ≤ σ.n ∧ (∃ a, σ.ob 0 = some ⟨0, 2, ty_Deck, false, true, [deckV t a]⟩) ∧ σ.ob 1 = some ⟨c1, 3, 31, false, true, [.agg [.list 4 (wts b.ps), .list 1 (lls b.pa), .list 4 (wns b.ac)]]⟩ ∧
    (∃ pc, Vb ⟨b.ps, pc, b.ac⟩ ∧ σ.ob 2 = some ⟨c1 + 1, 3, 31, false, true, [.agg [.list 4 (wts b.ps), .list 1 (lls pc), .list 4 (wns b.ac)]]⟩) ∧ e 10 = .int .i64 0) ?_ ?_
  · exact ⟨(by first | ((try simp (maxSteps := 1000000) only [go_sem, jjA, jjB, jjC, jjD, jjE, jjF, jjG, jjH, jjI, jjJ, ↓reduceIte, reduceCtorEq, w_app_nl]); done) | ((try simp (maxSteps := 1000000) only [go_sem, jjA, jjB, jjC, jjD, jjE, jjF, jjG, jjH, jjI, jjJ, ↓reduceIte, reduceCtorEq, w_app_nl]); rfl) | ((try simp (maxSteps := 1000000) (disch := omega) only [go_sem, jjA, jjB, jjC, jjD, jjE, jjF, jjG, jjH, jjI, jjJ, ↓reduceIte, reduceCtorEq, w_app_nl, wrap_id, w_ite_ne, w_ite_lt]); rfl) | (simp (maxSteps := 1000000) (disch := omega) only [go_sem, jjA, jjB, jjC, jjD, jjE, jjF, jjG, jjH, jjI, jjJ, ↓reduceIte, reduceCtorEq, w_app_nl, wrap_id, w_ite_ne, w_ite_lt]; done)), Nat.le_refl _, ⟨at1, by try simp (maxSteps := 500000) (disch := omega) only [go_sem, jjA, jjB, jjC, jjD, jjE, jjF, jjG, jjH, jjI, jjJ, ↓reduceIte, reduceCtorEq, wrap_id, w_ite_ne, w_ite_lt, jjK, jjL]; exact hd⟩, (by first | ((try simp (maxSteps := 1000000) only [go_sem, jjA, jjB, jjC, jjD, jjE, jjF, jjG, jjH, jjI, jjJ, ↓reduceIte, reduceCtorEq, w_app_nl]); done) | ((try simp (maxSteps := 1000000) only [go_sem, jjA, jjB, jjC, jjD, jjE, jjF, jjG, jjH, jjI, jjJ, ↓reduceIte, reduceCtorEq, w_app_nl]); rfl) | ((try simp (maxSteps := 1000000) (disch := omega) only [go_sem, jjA, jjB, jjC, jjD, jjE, jjF, jjG, jjH, jjI, jjJ, ↓reduceIte, reduceCtorEq, w_app_nl, wrap_id, w_ite_ne, w_ite_lt]); rfl) | (simp (maxSteps := 1000000) (disch := omega) only [go_sem, jjA, jjB, jjC, jjD, jjE, jjF, jjG, jjH, jjI, jjJ, ↓reduceIte, reduceCtorEq, w_app_nl, wrap_id, w_ite_ne, w_ite_lt]; done)), ⟨_, hvc, (by first | ((try simp (maxSteps := 1000000) only [go_sem, jjA, jjB, jjC, jjD, jjE, jjF, jjG, jjH, jjI, jjJ, ↓reduceIte, reduceCtorEq, w_app_nl]); done) | ((try simp (maxSteps := 1000000) only [go_sem, jjA, jjB, jjC, jjD, jjE, jjF, jjG, jjH, jjI, jjJ, ↓reduceIte, reduceCtorEq, w_app_nl]); rfl) | ((try simp (maxSteps := 1000000) (disch := omega) only [go_sem, jjA, jjB, jjC, jjD, jjE, jjF, jjG, jjH, jjI, jjJ, ↓reduceIte, reduceCtorEq, w_app_nl, wrap_id, w_ite_ne, w_ite_lt]); rfl) | (simp (maxSteps := 1000000) (disch := omega) only [go_sem, jjA, jjB, jjC, jjD, jjE, jjF, jjG, jjH, jjI, jjJ, ↓reduceIte, reduceCtorEq, w_app_nl, wrap_id, w_ite_ne, w_ite_lt]; done))⟩, (by first | ((try simp (maxSteps := 1000000) only [go_sem, jjA, jjB, jjC, jjD, jjE, jjF, jjG, jjH, jjI, jjJ, ↓reduceIte, reduceCtorEq, w_app_nl]); done) | ((try simp (maxSteps := 1000000) only [go_sem, jjA, jjB, jjC, jjD, jjE, jjF, jjG, jjH, jjI, jjJ, ↓reduceIte, reduceCtorEq, w_app_nl]); rfl) | ((try simp (maxSteps := 1000000) (disch := omega) only [go_sem, jjA, jjB, jjC, jjD, jjE, jjF, jjG, jjH, jjI, jjJ, ↓reduceIte, reduceCtorEq, w_app_nl, wrap_id, w_ite_ne, w_ite_lt]); rfl) | (simp (maxSteps := 1000000) (disch := omega) only [go_sem, jjA, jjB, jjC, jjD, jjE, jjF, jjG, jjH, jjI, jjJ, ↓reduceIte, reduceCtorEq, w_app_nl, wrap_id, w_ite_ne, w_ite_lt]; done))⟩
  clear hd
  rintro k fe ob m c hk hm ⟨hki, hm1, ⟨a, hd⟩, u1, ⟨pc, hvp, u2⟩, h10⟩
  simp (maxSteps := 1000000) only [go_sem, jjA, jjB, jjC, jjD, jjE, jjF, jjG, jjH, jjI, jjJ, ↓reduceIte, reduceCtorEq, w_app_nl] at hki hm hm1 hd u1 u2 h10
  try simp (maxSteps := 500000) (disch := omega) only [go_sem, jjA, jjB, jjC, jjD, jjE, jjF, jjG, jjH, jjI, jjJ, ↓reduceIte, reduceCtorEq, wrap_id, w_ite_ne, w_ite_lt, jjK, jjL, hki, ints_length]
  refine cond_d (fun hlt1 => ?_) (fun hge => ?_)
  · have hkl : k < old.length := by omega
    have hk2 : old[k]? = some old[k] := List.getElem?_eq_getElem hkl
    generalize old[k] = x at *
    try simp (maxSteps := 500000) (disch := omega) only [go_sem, jjA, jjB, jjC, jjD, jjE, jjF, jjG, jjH, jjI, jjJ, ↓reduceIte, reduceCtorEq, wrap_id, w_ite_ne, w_ite_lt, jjK, jjL, hki, ints_length, ints_get, hk2, Option.map_some, u1, wts_length]
    refine ⟨by omega, by omega, ?_⟩
    refine (hcG_mk_Flows _ 0 0 t a b.ps.length 30 (by omega) (by omega) (by omega) hlt (by simp only; omega) hd).mono ?_
    rintro r ⟨ob4, m4, c4⟩ ⟨g2, L, a2, rfl, hL, hLb, hn2, ho4, hd4, hf4⟩
    simp only at hn2 ho4 hd4 hf4
    subst hn2
    have hLn : L.length = b.ps.length := by omega
    have hr1 := tmod_bd point L.length (by omega)
    have hr2 := Int.tmod_nonneg (a := point) (L.length : Int) (by omega)
    try simp (maxSteps := 500000) (disch := omega) only [go_sem, jjA, jjB, jjC, jjD, jjE, jjF, jjG, jjH, jjI, jjJ, ↓reduceIte, reduceCtorEq, wrap_id, w_ite_ne, w_ite_lt, jjK, jjL, hLn]
    refine ⟨by omega, ?_⟩
    refine call_pc (ok_mk_Mod x 50 (by omega) (by omega)) (by simp [go_sem]) ?_
    have hx0 := Int.emod_nonneg x (show (50 : Int) ≠ 0 by omega)
    have hx1 := Int.emod_lt_of_pos x (show (0 : Int) < 50 by omega)
    generalize x % 50 = y at *
    rw [hLn] at hr1 hr2
    obtain ⟨q, hq⟩ := Int.eq_ofNat_of_zero_le hr2
    rw [hq] at hr1
    have hql : q < L.length := by omega
    have hqg : (ints L)[q]? = some (.int .i64 L[q]) := by rw [ints_get, List.getElem?_eq_getElem hql]; rfl
    try simp (maxSteps := 500000) (disch := omega) only [go_sem, jjA, jjB, jjC, jjD, jjE, jjF, jjG, jjH, jjI, jjJ, ↓reduceIte, reduceCtorEq, wrap_id, w_ite_ne, w_ite_lt, jjK, jjL, ho4, hqg, ints_length, hLn, hq]
    refine ⟨by omega, by omega, ?_⟩
    rw [ints_set1]
    have hLs : (L.set q y).length = b.ps.length := by simp [hLn]
    have hLf : flsB (L.set q y) = true := flsB_of (m := 50) (fun z hz => by
      rcases List.mem_or_eq_of_mem_set hz with h | h
      · have := hLb z h; omega
      · rw [h]; exact ⟨hx0, hx1⟩) (by omega)
    have hS := ok_warning_See ⟨b.ps, pc, b.ac⟩ (L.set q y) hvp.sz (by omega)
    rw [see_ok hvp hLs hLf] at hS
    have hvn := hvp.see hLs hLf
    have hps : (seeB ⟨b.ps, pc, b.ac⟩ (L.set q y)) = ⟨b.ps, (seeB ⟨b.ps, pc, b.ac⟩ (L.set q y)).pa, b.ac⟩ := rfl
    rw [hps] at hS hvn
    generalize (seeB ⟨b.ps, pc, b.ac⟩ (L.set q y)).pa = pc2 at *
    generalize selL (roseI ⟨b.ps, pc, b.ac⟩ (L.set q y)) b.ps.length = rl at *
    generalize L.set q y = L2 at *
    have v0 := hf4 1 (by omega) (by omega)
    have v2 := hf4 2 (by omega) (by omega)
    rw [u1] at v0
    rw [u2] at v2
    have z2 : ¬ 2 = m := by omega
    have z1 : ¬ 1 = m := by omega
    have z0 : ¬ 0 = m := by omega
    simp only [bov] at hS
    try simp (maxSteps := 500000) (disch := omega) only [go_sem, jjA, jjB, jjC, jjD, jjE, jjF, jjG, jjH, jjI, jjJ, ↓reduceIte, reduceCtorEq, wrap_id, w_ite_ne, w_ite_lt, jjK, jjL, v2, z2]
    refine call_rod m _ (upd_same _ _ _) hS (.cons (.pure (by simp [go_sem, wts_pur, lls_pur, wns_pur])) (.cons (Pub.of_sl (by simp only; rw [if_neg (by simp)]; exact upd_same _ _ _) (by rw [ints_length, hLs]) (ints_pur _) (ints_ok _)) .nil)) (by simp [go_sem, wts_pur, lls_pur, wns_pur, ints_pur]) fun ob5 hne5 hz5 => ?_
    simp only at hne5 hz5
    have w2 := (hne5 2 (by omega)).trans ((upd_ne _ _ _ _ z2).trans v2)
    have w1 := (hne5 1 (by omega)).trans ((upd_ne _ _ _ _ z1).trans v0)
    have w0 := (hne5 0 (by omega)).trans ((upd_ne _ _ _ _ z0).trans hd4)
    try simp (maxSteps := 500000) (disch := omega) only [go_sem, jjA, jjB, jjC, jjD, jjE, jjF, jjG, jjH, jjI, jjJ, ↓reduceIte, reduceCtorEq, wrap_id, w_ite_ne, w_ite_lt, jjK, jjL, w2, hki]
    refine up_nextG (m + 1) hkl (by omega) ⟨(by first | ((try simp (maxSteps := 1000000) only [go_sem, jjA, jjB, jjC, jjD, jjE, jjF, jjG, jjH, jjI, jjJ, ↓reduceIte, reduceCtorEq, w_app_nl]); done) | ((try simp (maxSteps := 1000000) only [go_sem, jjA, jjB, jjC, jjD, jjE, jjF, jjG, jjH, jjI, jjJ, ↓reduceIte, reduceCtorEq, w_app_nl]); rfl) | ((try simp (maxSteps := 1000000) (disch := omega) only [go_sem, jjA, jjB, jjC, jjD, jjE, jjF, jjG, jjH, jjI, jjJ, ↓reduceIte, reduceCtorEq, w_app_nl, wrap_id, w_ite_ne, w_ite_lt]); rfl) | (simp (maxSteps := 1000000) (disch := omega) only [go_sem, jjA, jjB, jjC, jjD, jjE, jjF, jjG, jjH, jjI, jjJ, ↓reduceIte, reduceCtorEq, w_app_nl, wrap_id, w_ite_ne, w_ite_lt]; done)), by simp only [St.trunc]; omega, ⟨a2, ?_⟩, ?_, ⟨pc2, hvn, ?_⟩, (by first | ((try simp (maxSteps := 1000000) only [go_sem, jjA, jjB, jjC, jjD, jjE, jjF, jjG, jjH, jjI, jjJ, ↓reduceIte, reduceCtorEq, w_app_nl]); done) | ((try simp (maxSteps := 1000000) only [go_sem, jjA, jjB, jjC, jjD, jjE, jjF, jjG, jjH, jjI, jjJ, ↓reduceIte, reduceCtorEq, w_app_nl]); rfl) | ((try simp (maxSteps := 1000000) (disch := omega) only [go_sem, jjA, jjB, jjC, jjD, jjE, jjF, jjG, jjH, jjI, jjJ, ↓reduceIte, reduceCtorEq, w_app_nl, wrap_id, w_ite_ne, w_ite_lt]); rfl) | (simp (maxSteps := 1000000) (disch := omega) only [go_sem, jjA, jjB, jjC, jjD, jjE, jjF, jjG, jjH, jjI, jjJ, ↓reduceIte, reduceCtorEq, w_app_nl, wrap_id, w_ite_ne, w_ite_lt]; done))⟩
    · rw [tr_ob (by omega), upd_ne _ _ _ _ (by omega)]; exact w0
    · rw [tr_ob (by omega), upd_ne _ _ _ _ (by omega)]; exact w1
    · rw [tr_ob (by omega), upd_same]
  clear hge hki hk
  try simp (maxSteps := 500000) (disch := omega) only [go_sem, jjA, jjB, jjC, jjD, jjE, jjF, jjG, jjH, jjI, jjJ, ↓reduceIte, reduceCtorEq, wrap_id, w_ite_ne, w_ite_lt, jjK, jjL, u1]
  refine call_pc hop (by simp [go_sem, wts_pur]) ?_
  have z2 : ¬ 2 = m := by omega
  have z1 : ¬ 1 = m := by omega
  have z0 : ¬ 0 = m := by omega
  have zm2 : ¬ m = 2 := by omega
  try simp (maxSteps := 500000) (disch := omega) only [go_sem, jjA, jjB, jjC, jjD, jjE, jjF, jjG, jjH, jjI, jjJ, ↓reduceIte, reduceCtorEq, wrap_id, w_ite_ne, w_ite_lt, jjK, jjL]
  refine awp_upG [6, 10, 15, 16, 17, 88, 89, 90, 91, 92, 93, 94, 95, 96, 97, 98, 99, 100, 101, 102, 103, 104, 105, 106, 107, 108, 109, 110, 111, 112, 113, 114, 115, 116] (by kernel_rfl) 4 (fun k e σ => e 15 = .int .i64 k ∧ m + 1 ≤ σ.n ∧ (∃ a, σ.ob 0 = some ⟨0, 2, ty_Deck, false, true, [deckV t a]⟩) ∧ σ.ob 1 = some ⟨c1, 3, 31, false, true, [.agg [.list 4 (wts b.ps), .list 1 (lls b.pa), .list 4 (wns b.ac)]]⟩ ∧
    (∃ pc ps, Vb ⟨b.ps, pc, b.ac⟩ ∧ Vb ⟨b.ps, ps, []⟩ ∧ WinR b ⟨b.ps, pc, b.ac⟩ ⟨b.ps, ps, []⟩ k ∧ σ.ob 2 = some ⟨c1 + 1, 3, 31, false, true, [.agg [.list 4 (wts b.ps), .list 1 (lls pc), .list 4 (wns b.ac)]]⟩ ∧
      σ.ob m = some ⟨c, 3, 31, false, true, [.agg [.list 4 (wts b.ps), .list 1 (lls ps), .list 4 (wns [])]]⟩) ∧ e 10 = .int .i64 0) ?_ ?_
  · refine ⟨(by first | ((try simp (maxSteps := 1000000) only [go_sem, jjA, jjB, jjC, jjD, jjE, jjF, jjG, jjH, jjI, jjJ, ↓reduceIte, reduceCtorEq, w_app_nl]); done) | ((try simp (maxSteps := 1000000) only [go_sem, jjA, jjB, jjC, jjD, jjE, jjF, jjG, jjH, jjI, jjJ, ↓reduceIte, reduceCtorEq, w_app_nl]); rfl) | ((try simp (maxSteps := 1000000) (disch := omega) only [go_sem, jjA, jjB, jjC, jjD, jjE, jjF, jjG, jjH, jjI, jjJ, ↓reduceIte, reduceCtorEq, w_app_nl, wrap_id, w_ite_ne, w_ite_lt]); rfl) | (simp (maxSteps := 1000000) (disch := omega) only [go_sem, jjA, jjB, jjC, jjD, jjE, jjF, jjG, jjH, jjI, jjJ, ↓reduceIte, reduceCtorEq, w_app_nl, wrap_id, w_ite_ne, w_ite_lt]; done)), Nat.le_refl _, ⟨a, ?_⟩, ?_, ⟨pc, _, hvp, hvo, WinR.init b _ [], ?_, ?_⟩, (by first | ((try simp (maxSteps := 1000000) only [go_sem, jjA, jjB, jjC, jjD, jjE, jjF, jjG, jjH, jjI, jjJ, ↓reduceIte, reduceCtorEq, w_app_nl]); done) | ((try simp (maxSteps := 1000000) only [go_sem, jjA, jjB, jjC, jjD, jjE, jjF, jjG, jjH, jjI, jjJ, ↓reduceIte, reduceCtorEq, w_app_nl]); rfl) | ((try simp (maxSteps := 1000000) (disch := omega) only [go_sem, jjA, jjB, jjC, jjD, jjE, jjF, jjG, jjH, jjI, jjJ, ↓reduceIte, reduceCtorEq, w_app_nl, wrap_id, w_ite_ne, w_ite_lt]); rfl) | (simp (maxSteps := 1000000) (disch := omega) only [go_sem, jjA, jjB, jjC, jjD, jjE, jjF, jjG, jjH, jjI, jjJ, ↓reduceIte, reduceCtorEq, w_app_nl, wrap_id, w_ite_ne, w_ite_lt]; done))⟩
    · simp only; rw [upd_ne _ _ _ _ z0, upd_ne _ _ _ _ z0]; exact hd
    · simp only; rw [upd_ne _ _ _ _ z1, upd_ne _ _ _ _ z1]; exact u1
    · simp only; rw [upd_ne _ _ _ _ z2, upd_ne _ _ _ _ z2]; exact u2
    · exact upd_same _ _ _
  clear hd u1 u2 hvp h10
  rintro k fe2 ob2 m2 c2 hk hm2 ⟨hki, hm3, ⟨a3, hd⟩, u1, ⟨pc, ps, hvp, hvs, hW, u2, u3⟩, h10⟩
  simp (maxSteps := 1000000) only [go_sem, jjA, jjB, jjC, jjD, jjE, jjF, jjG, jjH, jjI, jjJ, ↓reduceIte, reduceCtorEq, w_app_nl] at hki hm2 hm3 hd u1 u2 u3 h10
  try simp (maxSteps := 500000) (disch := omega) only [go_sem, jjA, jjB, jjC, jjD, jjE, jjF, jjG, jjH, jjI, jjJ, ↓reduceIte, reduceCtorEq, wrap_id, w_ite_ne, w_ite_lt, jjK, jjL, hki, h10, decide_true]
  refine gd_td rfl (fun hk4 => ?_) (fun hk4 => ?_)
  · have hkl : k < 4 := by omega
    try simp (maxSteps := 500000) (disch := omega) only [go_sem, jjA, jjB, jjC, jjD, jjE, jjF, jjG, jjH, jjI, jjJ, ↓reduceIte, reduceCtorEq, wrap_id, w_ite_ne, w_ite_lt, jjK, jjL, h10, decide_true, u1, wts_length]
    refine (hcG_mk_Flows _ 0 0 t a3 b.ps.length 30 (by omega) (by omega) (by omega) hlt (by simp only; omega) hd).mono ?_
    rintro r ⟨ob4, m4, c4⟩ ⟨g2, L, a2, rfl, hL, hLb, hn2, ho4, hd4, hf4⟩
    simp only at hn2 ho4 hd4 hf4
    subst hn2
    have hLn : L.length = b.ps.length := by omega
    have hLf : flsB L = true := flsB_of hLb (by omega)
    have hS := ok_warning_See ⟨b.ps, pc, b.ac⟩ L hvp.sz (by omega)
    rw [see_ok hvp hLn hLf] at hS
    have hS2 := ok_warning_See ⟨b.ps, ps, []⟩ L hvs.sz (by omega)
    rw [see_ok hvs hLn hLf] at hS2
    have hvn := hvp.see hLn hLf
    have hvn2 := hvs.see hLn hLf
    have hWn := hW.step rfl rfl L
    have e1 : (seeB ⟨b.ps, pc, b.ac⟩ L) = ⟨b.ps, (seeB ⟨b.ps, pc, b.ac⟩ L).pa, b.ac⟩ := rfl
    have e2 : (seeB ⟨b.ps, ps, []⟩ L) = ⟨b.ps, (seeB ⟨b.ps, ps, []⟩ L).pa, []⟩ := rfl
    rw [e1] at hS hvn hWn
    rw [e2] at hS2 hvn2 hWn
    generalize (seeB ⟨b.ps, pc, b.ac⟩ L).pa = pc2 at *
    generalize (seeB ⟨b.ps, ps, []⟩ L).pa = ps2 at *
    generalize selL (roseI ⟨b.ps, pc, b.ac⟩ L) b.ps.length = rl at *
    generalize selL (roseI ⟨b.ps, ps, []⟩ L) b.ps.length = rl2 at *
    have v0 := hf4 1 (by omega) (by omega)
    have v2 := hf4 2 (by omega) (by omega)
    have v3 := hf4 m (by omega) (by omega)
    rw [u1] at v0
    rw [u2] at v2
    rw [u3] at v3
    have y2 : ¬ 2 = m2 := by omega
    have y1 : ¬ 1 = m2 := by omega
    have y0 : ¬ 0 = m2 := by omega
    have ym : ¬ m = m2 := by omega
    simp only [bov] at hS hS2
    try simp (maxSteps := 500000) (disch := omega) only [go_sem, jjA, jjB, jjC, jjD, jjE, jjF, jjG, jjH, jjI, jjJ, ↓reduceIte, reduceCtorEq, wrap_id, w_ite_ne, w_ite_lt, jjK, jjL, v2]
    refine call_rod m2 _ ho4 hS (.cons (.pure (by simp [go_sem, wts_pur, lls_pur, wns_pur])) (.cons (Pub.of_sl (by simp only; rw [if_neg (by simp)]; exact ho4) (by rw [ints_length]) (ints_pur _) (ints_ok _)) .nil)) (by simp [go_sem, wts_pur, lls_pur, wns_pur, ints_pur]) fun ob5 hne5 hz5 => ?_
    simp only at hne5 hz5
    have w3 := (hne5 m (by omega)).trans v3
    have w2 := (hne5 2 (by omega)).trans v2
    have w1 := (hne5 1 (by omega)).trans v0
    have w0 := (hne5 0 (by omega)).trans hd4
    try simp (maxSteps := 500000) (disch := omega) only [go_sem, jjA, jjB, jjC, jjD, jjE, jjF, jjG, jjH, jjI, jjJ, ↓reduceIte, reduceCtorEq, wrap_id, w_ite_ne, w_ite_lt, jjK, jjL, w2, w3, zm2]
    refine call_rod m2 _ (by simp only; rw [upd_ne _ _ _ _ (by omega)]; exact hz5) hS2 (.cons (.pure (by simp [go_sem, wts_pur, lls_pur, wns_pur])) (.cons (Pub.of_sl (by simp only; rw [if_neg (by simp), upd_ne _ _ _ _ (by omega)]; exact hz5) (by rw [ints_length]) (ints_pur _) (ints_ok _)) .nil)) (by simp [go_sem, wts_pur, lls_pur, wns_pur, ints_pur]) fun ob6 hne6 hz6 => ?_
    simp only at hne6 hz6
    have x3 := (hne6 m (by omega)).trans ((upd_ne _ _ _ _ zm2).trans w3)
    have x2 := (hne6 2 (by omega)).trans (upd_same _ _ _)
    have x1 := (hne6 1 (by omega)).trans ((upd_ne _ _ _ _ (by omega)).trans w1)
    have x0 := (hne6 0 (by omega)).trans ((upd_ne _ _ _ _ (by omega)).trans w0)
    try simp (maxSteps := 500000) (disch := omega) only [go_sem, jjA, jjB, jjC, jjD, jjE, jjF, jjG, jjH, jjI, jjJ, ↓reduceIte, reduceCtorEq, wrap_id, w_ite_ne, w_ite_lt, jjK, jjL, x3, hki]
    refine up_nextG (m2 + 1) hkl (by omega) ⟨(by first | ((try simp (maxSteps := 1000000) only [go_sem, jjA, jjB, jjC, jjD, jjE, jjF, jjG, jjH, jjI, jjJ, ↓reduceIte, reduceCtorEq, w_app_nl]); done) | ((try simp (maxSteps := 1000000) only [go_sem, jjA, jjB, jjC, jjD, jjE, jjF, jjG, jjH, jjI, jjJ, ↓reduceIte, reduceCtorEq, w_app_nl]); rfl) | ((try simp (maxSteps := 1000000) (disch := omega) only [go_sem, jjA, jjB, jjC, jjD, jjE, jjF, jjG, jjH, jjI, jjJ, ↓reduceIte, reduceCtorEq, w_app_nl, wrap_id, w_ite_ne, w_ite_lt]); rfl) | (simp (maxSteps := 1000000) (disch := omega) only [go_sem, jjA, jjB, jjC, jjD, jjE, jjF, jjG, jjH, jjI, jjJ, ↓reduceIte, reduceCtorEq, w_app_nl, wrap_id, w_ite_ne, w_ite_lt]; done)), by simp only [St.trunc]; omega, ⟨a2, ?_⟩, ?_, ⟨pc2, ps2, hvn, hvn2, hWn, ?_, ?_⟩, (by first | ((try simp (maxSteps := 1000000) only [go_sem, jjA, jjB, jjC, jjD, jjE, jjF, jjG, jjH, jjI, jjJ, ↓reduceIte, reduceCtorEq, w_app_nl]); done) | ((try simp (maxSteps := 1000000) only [go_sem, jjA, jjB, jjC, jjD, jjE, jjF, jjG, jjH, jjI, jjJ, ↓reduceIte, reduceCtorEq, w_app_nl]); rfl) | ((try simp (maxSteps := 1000000) (disch := omega) only [go_sem, jjA, jjB, jjC, jjD, jjE, jjF, jjG, jjH, jjI, jjJ, ↓reduceIte, reduceCtorEq, w_app_nl, wrap_id, w_ite_ne, w_ite_lt]); rfl) | (simp (maxSteps := 1000000) (disch := omega) only [go_sem, jjA, jjB, jjC, jjD, jjE, jjF, jjG, jjH, jjI, jjJ, ↓reduceIte, reduceCtorEq, w_app_nl, wrap_id, w_ite_ne, w_ite_lt]; done))⟩
    · rw [tr_ob (by omega), upd_ne _ _ _ _ (by omega)]; exact x0
    · rw [tr_ob (by omega), upd_ne _ _ _ _ (by omega)]; exact x1
    · rw [tr_ob (by omega), upd_ne _ _ _ _ (by omega)]; exact x2
    · rw [tr_ob (by omega), upd_same]
  obtain rfl : k = 4 := by omega
  clear hk hki hk4
  try simp (maxSteps := 500000) (disch := omega) only [go_sem, jjA, jjB, jjC, jjD, jjE, jjF, jjG, jjH, jjI, jjJ, ↓reduceIte, reduceCtorEq, wrap_id, w_ite_ne, w_ite_lt, jjK, jjL, u1, wts_length]
  refine (hcG_mk_Flows _ 0 0 t a3 b.ps.length 40 (by omega) (by omega) (by omega) hlt (by simp only; omega) hd).mono ?_
  rintro r ⟨ob4, m4, c4⟩ ⟨g2, L, a2, rfl, hL, hLb, hn2, ho4, hd4, hf4⟩
  simp only at hn2 ho4 hd4 hf4
  subst hn2
  have hLn : L.length = b.ps.length := by omega
  have hLf : flsB L = true := flsB_of hLb (by omega)
  have hS := ok_warning_See ⟨b.ps, pc, b.ac⟩ L hvp.sz (by omega)
  rw [see_ok hvp hLn hLf] at hS
  have hS2 := ok_warning_See ⟨b.ps, ps, []⟩ L hvs.sz (by omega)
  rw [see_ok hvs hLn hLf] at hS2
  have e1 : (seeB ⟨b.ps, pc, b.ac⟩ L) = ⟨b.ps, (seeB ⟨b.ps, pc, b.ac⟩ L).pa, b.ac⟩ := rfl
  have e2 : (seeB ⟨b.ps, ps, []⟩ L) = ⟨b.ps, (seeB ⟨b.ps, ps, []⟩ L).pa, []⟩ := rfl
  rw [e1] at hS
  rw [e2] at hS2
  generalize (seeB ⟨b.ps, pc, b.ac⟩ L).pa = pc2 at *
  generalize (seeB ⟨b.ps, ps, []⟩ L).pa = ps2 at *
  have hrose : ∀ i, i < b.ps.length → (gW b i).w ≤ 4 → decide ((i : Int) ∈ selL (roseI ⟨b.ps, pc, b.ac⟩ L) b.ps.length) = decide ((i : Int) ∈ selL (roseI ⟨b.ps, ps, []⟩ L) b.ps.length) := fun i hi h4 => by
    rw [has_sel hi, has_sel hi]
    exact hW.rose rfl rfl hi (hB.p.2.2 _ (List.mem_of_getElem? (gW_get hi))).2.1.1 h4 L
  have hl1' := selL_len (roseI ⟨b.ps, pc, b.ac⟩ L) b.ps.length
  have hl2' := selL_len (roseI ⟨b.ps, ps, []⟩ L) b.ps.length
  simp only at hS hS2
  generalize selL (roseI ⟨b.ps, pc, b.ac⟩ L) b.ps.length = rl at *
  generalize selL (roseI ⟨b.ps, ps, []⟩ L) b.ps.length = rl2 at *
  have v0 := hf4 1 (by omega) (by omega)
  have v2 := hf4 2 (by omega) (by omega)
  have v3 := hf4 m (by omega) (by omega)
  rw [u1] at v0
  rw [u2] at v2
  rw [u3] at v3
  simp only [bov] at hS hS2
  try simp (maxSteps := 500000) (disch := omega) only [go_sem, jjA, jjB, jjC, jjD, jjE, jjF, jjG, jjH, jjI, jjJ, ↓reduceIte, reduceCtorEq, wrap_id, w_ite_ne, w_ite_lt, jjK, jjL, v2]
  refine call_rod m2 _ ho4 hS (.cons (.pure (by simp [go_sem, wts_pur, lls_pur, wns_pur])) (.cons (Pub.of_sl (by simp only; rw [if_neg (by simp)]; exact ho4) (by rw [ints_length]) (ints_pur _) (ints_ok _)) .nil)) (by simp [go_sem, wts_pur, lls_pur, wns_pur, ints_pur]) fun ob5 hne5 hz5 => ?_
  simp only at hne5 hz5
  have w3 := (hne5 m (by omega)).trans v3
  have w1 := (hne5 1 (by omega)).trans v0
  have ym1 : ¬ m = m2 + 1 := by omega
  try simp (maxSteps := 500000) (disch := omega) only [go_sem, jjA, jjB, jjC, jjD, jjE, jjF, jjG, jjH, jjI, jjJ, ↓reduceIte, reduceCtorEq, wrap_id, w_ite_ne, w_ite_lt, jjK, jjL, w3, ym1]
  refine call_rod m2 _ (by simp only; rw [upd_ne _ _ _ _ (by omega), upd_ne _ _ _ _ (by omega)]; exact hz5) hS2 (.cons (.pure (by simp [go_sem, wts_pur, lls_pur, wns_pur])) (.cons (Pub.of_sl (by simp only; rw [if_neg (by simp), upd_ne _ _ _ _ (by omega), upd_ne _ _ _ _ (by omega)]; exact hz5) (by rw [ints_length]) (ints_pur _) (ints_ok _)) .nil)) (by simp [go_sem, wts_pur, lls_pur, wns_pur, ints_pur]) fun ob6 hne6 hz6 => ?_
  simp only at hne6 hz6
  have x4 := (hne6 (m2 + 1) (by omega)).trans (upd_same _ _ _)
  have x1 := (hne6 1 (by omega)).trans ((upd_ne _ _ _ _ (by omega)).trans ((upd_ne _ _ _ _ (by omega)).trans w1))
  have y1 : ¬ 1 = m2 + 1 + 1 := by omega
  have y4 : ¬ m2 + 1 = m2 + 1 + 1 := by omega
  try simp (maxSteps := 500000) (disch := omega) only [go_sem, jjA, jjB, jjC, jjD, jjE, jjF, jjG, jjH, jjI, jjJ, ↓reduceIte, reduceCtorEq, wrap_id, w_ite_ne, w_ite_lt, jjK, jjL, x1, y1, wts_length]
  refine awp_upG [6, 25, 26, 139, 140, 141, 142, 143, 144, 145, 146, 147, 148, 149, 150, 151, 152, 153, 154, 155, 156] (by kernel_rfl) b.ps.length (fun i e σ => e 139 = .int .i64 i ∧ m2 + 3 ≤ σ.n ∧ σ.ob 1 = some ⟨c1, 3, 31, false, true, [.agg [.list 4 (wts b.ps), .list 1 (lls b.pa), .list 4 (wns b.ac)]]⟩ ∧ σ.ob (m2 + 1) = some ⟨c4, 3, 31, false, true, [.agg [.list 4 (wts b.ps), .list 1 (lls pc2), .list 4 (wns b.ac)]]⟩) ?_ ?_
  · refine ⟨(by first | ((try simp (maxSteps := 1000000) only [go_sem, jjA, jjB, jjC, jjD, jjE, jjF, jjG, jjH, jjI, jjJ, ↓reduceIte, reduceCtorEq, w_app_nl]); done) | ((try simp (maxSteps := 1000000) only [go_sem, jjA, jjB, jjC, jjD, jjE, jjF, jjG, jjH, jjI, jjJ, ↓reduceIte, reduceCtorEq, w_app_nl]); rfl) | ((try simp (maxSteps := 1000000) (disch := omega) only [go_sem, jjA, jjB, jjC, jjD, jjE, jjF, jjG, jjH, jjI, jjJ, ↓reduceIte, reduceCtorEq, w_app_nl, wrap_id, w_ite_ne, w_ite_lt]); rfl) | (simp (maxSteps := 1000000) (disch := omega) only [go_sem, jjA, jjB, jjC, jjD, jjE, jjF, jjG, jjH, jjI, jjJ, ↓reduceIte, reduceCtorEq, w_app_nl, wrap_id, w_ite_ne, w_ite_lt]; done)), Nat.le_refl _, ?_, ?_⟩
    · simp only; rw [upd_ne _ _ _ _ y1, upd_ne _ _ _ _ y1]; exact x1
    · simp only; rw [upd_ne _ _ _ _ y4, upd_ne _ _ _ _ y4]; exact x4
  clear x1 x4 hne6 hz6 hne5 hz5 w3 w1 v0 v2 v3 hd4 hf4 ho4 hd u1 u2 u3
  rintro i fe3 ob3 m3 c3 hi hm4 ⟨hii, hm5, u1, u4⟩
  simp (maxSteps := 1000000) only [go_sem, jjA, jjB, jjC, jjD, jjE, jjF, jjG, jjH, jjI, jjJ, ↓reduceIte, reduceCtorEq, w_app_nl] at hii hm4 hm5 u1 u4
  try simp (maxSteps := 500000) (disch := omega) only [go_sem, jjA, jjB, jjC, jjD, jjE, jjF, jjG, jjH, jjI, jjJ, ↓reduceIte, reduceCtorEq, wrap_id, w_ite_ne, w_ite_lt, jjK, jjL, hii]
  refine cond_d (fun hlt3 => ?_) (fun hge3 => ?_)
  · have hil : i < b.ps.length := by omega
    have hw0 := gW_get hil
    have hro := hrose i hil
    generalize gW b i = p at *
    have q1 : ¬ 1 = m3 := by omega
    have q4 : ¬ m2 + 1 = m3 := by omega
    have r1 := ok_law36_has rl i (by omega)
    have r2 := ok_law36_has rl2 i (by omega)
    try simp (maxSteps := 500000) (disch := omega) only [go_sem, jjA, jjB, jjC, jjD, jjE, jjF, jjG, jjH, jjI, jjJ, ↓reduceIte, reduceCtorEq, wrap_id, w_ite_ne, w_ite_lt, jjK, jjL, hii, wts_length, wts_get, hw0, Option.map_some, wtv]
    refine ⟨by omega, by omega, ?_⟩
    refine gd_td rfl (fun hp4 => ?_) (fun hp4 => ?_)
    · try simp (maxSteps := 500000) (disch := omega) only [go_sem, jjA, jjB, jjC, jjD, jjE, jjF, jjG, jjH, jjI, jjJ, ↓reduceIte, reduceCtorEq, wrap_id, w_ite_ne, w_ite_lt, jjK, jjL]
      refine call_pc r1 (by simp [go_sem, ints_pur]) ?_
      try simp (maxSteps := 500000) (disch := omega) only [go_sem, jjA, jjB, jjC, jjD, jjE, jjF, jjG, jjH, jjI, jjJ, ↓reduceIte, reduceCtorEq, wrap_id, w_ite_ne, w_ite_lt, jjK, jjL]
      refine call_pc r2 (by simp [go_sem, ints_pur]) ?_
      rw [hro hp4]
      try simp (maxSteps := 500000) (disch := omega) only [go_sem, jjA, jjB, jjC, jjD, jjE, jjF, jjG, jjH, jjI, jjJ, ↓reduceIte, reduceCtorEq, wrap_id, w_ite_ne, w_ite_lt, jjK, jjL, hii, decide_true, Bool.not_true]
      refine up_nextG (m3 + 1) hil (by omega) ⟨(by first | ((try simp (maxSteps := 1000000) only [go_sem, jjA, jjB, jjC, jjD, jjE, jjF, jjG, jjH, jjI, jjJ, ↓reduceIte, reduceCtorEq, w_app_nl]); done) | ((try simp (maxSteps := 1000000) only [go_sem, jjA, jjB, jjC, jjD, jjE, jjF, jjG, jjH, jjI, jjJ, ↓reduceIte, reduceCtorEq, w_app_nl]); rfl) | ((try simp (maxSteps := 1000000) (disch := omega) only [go_sem, jjA, jjB, jjC, jjD, jjE, jjF, jjG, jjH, jjI, jjJ, ↓reduceIte, reduceCtorEq, w_app_nl, wrap_id, w_ite_ne, w_ite_lt]); rfl) | (simp (maxSteps := 1000000) (disch := omega) only [go_sem, jjA, jjB, jjC, jjD, jjE, jjF, jjG, jjH, jjI, jjJ, ↓reduceIte, reduceCtorEq, w_app_nl, wrap_id, w_ite_ne, w_ite_lt]; done)), by simp only [St.trunc]; omega, ?_, ?_⟩
      · rw [tr_ob (by omega), upd_ne _ _ _ _ q1, upd_ne _ _ _ _ q1]; exact u1
      · rw [tr_ob (by omega), upd_ne _ _ _ _ q4, upd_ne _ _ _ _ q4]; exact u4
    · try simp (maxSteps := 500000) (disch := omega) only [go_sem, jjA, jjB, jjC, jjD, jjE, jjF, jjG, jjH, jjI, jjJ, ↓reduceIte, reduceCtorEq, wrap_id, w_ite_ne, w_ite_lt, jjK, jjL, hii]
      refine up_nextG (m3 + 1) hil (by omega) ⟨(by first | ((try simp (maxSteps := 1000000) only [go_sem, jjA, jjB, jjC, jjD, jjE, jjF, jjG, jjH, jjI, jjJ, ↓reduceIte, reduceCtorEq, w_app_nl]); done) | ((try simp (maxSteps := 1000000) only [go_sem, jjA, jjB, jjC, jjD, jjE, jjF, jjG, jjH, jjI, jjJ, ↓reduceIte, reduceCtorEq, w_app_nl]); rfl) | ((try simp (maxSteps := 1000000) (disch := omega) only [go_sem, jjA, jjB, jjC, jjD, jjE, jjF, jjG, jjH, jjI, jjJ, ↓reduceIte, reduceCtorEq, w_app_nl, wrap_id, w_ite_ne, w_ite_lt]); rfl) | (simp (maxSteps := 1000000) (disch := omega) only [go_sem, jjA, jjB, jjC, jjD, jjE, jjF, jjG, jjH, jjI, jjJ, ↓reduceIte, reduceCtorEq, w_app_nl, wrap_id, w_ite_ne, w_ite_lt]; done)), by simp only [St.trunc]; omega, ?_, ?_⟩
      · rw [tr_ob (by omega), upd_ne _ _ _ _ q1, upd_ne _ _ _ _ q1]; exact u1
      · rw [tr_ob (by omega), upd_ne _ _ _ _ q4, upd_ne _ _ _ _ q4]; exact u4
  have hSm := ok_warning_Same ⟨[], [], b.ac⟩ ⟨[], [], b.ac⟩ ⟨by simp, by simp, by simp, hV.sz.a, hV.sz.c⟩
  have hSm2 : PC prog n_warning_Same [.agg [.nil, .nil, .list 4 (wns b.ac)], .agg [.nil, .nil, .list 4 (wns b.ac)]] (.bool true) := by
    rw [decide_eq_true rfl] at hSm
    exact pc_nl hSm (.cons (.agg (.cons (.nil 4) (.cons (.nil 1) (.cons .rfl .nil)))) (.cons (.agg (.cons (.nil 4) (.cons (.nil 1) (.cons .rfl .nil)))) .nil))
  try simp (maxSteps := 500000) (disch := omega) only [go_sem, jjA, jjB, jjC, jjD, jjE, jjF, jjG, jjH, jjI, jjJ, ↓reduceIte, reduceCtorEq, wrap_id, w_ite_ne, w_ite_lt, jjK, jjL, h10, decide_true, u1, u4]
  refine call_pc hSm2 (by simp [go_sem, wns_pur]) ?_
  try simp (maxSteps := 500000) (disch := omega) only [go_sem, jjA, jjB, jjC, jjD, jjE, jjF, jjG, jjH, jjI, jjJ, ↓reduceIte, reduceCtorEq, wrap_id, w_ite_ne, w_ite_lt, jjK, jjL]
  exact Pub.pure rfl
theorem law_law36_WarningWindow {c0 c1 c2 : List AV} (s0 : (Sh.slice 1 (.int .i64)).R c0) (s1 : (Sh.slice 1 (.int .i64)).R c1) (s2 : (Sh.int .u8).R c2) : PC prog n_law36_WarningWindow [(Sh.slice 1 (.int .i64)).mk1 c0, (Sh.slice 1 (.int .i64)).mk1 c1, (Sh.int .u8).mk1 c2] (.bool true) := by
  obtain ⟨l0, rfl, _, _⟩ := shInts s0
  obtain ⟨l1, rfl, h1, _⟩ := shInts s1
  obtain ⟨a2, rfl, w2⟩ := s2
  exact ok_law36_WarningWindow l0 l1 a2 h1 (wf_u8 w2)
end Go.Proofs.Try
