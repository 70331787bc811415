/-
  OWN WORK, put together by tools/asm.py: what functions do.
-/
import Derived.Test.YtkjjlopkooiljaaLibD
set_option linter.unusedSimpArgs false
set_option linter.unusedVariables false
set_option maxRecDepth 100000
set_option maxHeartbeats 1000000
namespace Go.Proofs.Try
open Go.Ab Go
theorem odOk_of {o : Od} (h1 : 1 ≤ o.n) (h2 : o.n ≤ 1073741824) (h3 : fitE o.k o.i o.v = 0) : odOk o = true := by simp [odOk, inO, h1, h2, h3]
theorem sdOk_of {s : Sd} (h1 : 1 ≤ s.n) (h2 : s.n ≤ 1073741824) (h3 : s.l.length ≤ 64) (h4 : runO (s.n - s.l.length) s.l = true) : sdOk s = true := by simp [sdOk, inO, h1, h2, h3, h4]
theorem snOk_of {s : Sn} (h1 : 0 ≤ s.d) (h2 : s.d ≤ 1073741824) (h3 : s.l.length ≤ 64) (h4 : ascO (s.d + 1) s.l = true) : snOk s = true := by simp [snOk, inO, h1, h2, h3, h4]
theorem tmod_nat (k n : Nat) : (k : Int).tmod (n : Int) = ((k % n : Nat) : Int) := rfl
def limO (f : Int) (i : Nat) : Od := ⟨f + i, 3, ((i % 6 : Nat) : Int), ((i % 2 : Nat) : Int)⟩
def limL (f : Int) (k : Nat) : List Od := (List.range k).map (limO f)
theorem limL_length (f : Int) (k : Nat) : (limL f k).length = k := by simp [limL]
theorem limL_get {f : Int} {k i : Nat} {y : Od} (h : (limL f k)[i]? = some y) : i < k ∧ y = limO f i := by
  have hi := (List.getElem?_eq_some_iff.1 h).1
  rw [limL_length] at hi
  simp [limL, List.getElem?_map, List.getElem?_range hi] at h
  exact ⟨hi, h.symm⟩
theorem limL_snoc (f : Int) (k : Nat) : limL f (k + 1) = limL f k ++ [limO f k] := by simp [limL, List.range_succ]
theorem limO_fit (i : Nat) : fitE 3 ((i % 6 : Nat) : Int) ((i % 2 : Nat) : Int) = 0 := by
  have h1 : inO ((i % 6 : Nat) : Int) 0 5 = true := by simp [inO]; omega
  have h2 : inO ((i % 2 : Nat) : Int) 0 1 = true := by simp [inO]; omega
  simp only [fitE, h1, h2]
  rfl
theorem limO_ok (f : Int) (i : Nat) (h : 1 ≤ f + i ∧ f + i ≤ 1073741824) : odOk (limO f i) = true := by
  exact odOk_of h.1 h.2 (limO_fit i)
def limS (f : Int) (k : Nat) : Sd := ⟨f + 1 + k, limL (f + 1) k⟩
def limU (f g : Int) (k : Nat) : Sn := ⟨f, limL (f + 2 + g) k⟩
theorem limS_ok {f : Int} {k : Nat} (hf : 0 ≤ f ∧ f ≤ 255) (hk : k ≤ 64) : sdOk (limS f k) = true := by
  have hr : runO (f + 1 + k - ((limL (f + 1) k).length : Nat)) (limL (f + 1) k) = true := runO_of fun i y hy => by
    obtain ⟨hi, rfl⟩ := limL_get hy
    rw [limL_length]
    refine ⟨limO_ok _ _ (by omega), ?_⟩
    simp only [limO]; omega
  exact sdOk_of (by show 1 ≤ f + 1 + (k : Int); omega) (by show f + 1 + (k : Int) ≤ _; omega) (by show (limL (f + 1) k).length ≤ 64; rw [limL_length]; exact hk) hr
theorem ascO_of : ∀ {l : List Od} {s : Int}, (∀ y ∈ l, odOk y = true ∧ s < y.n) → (∀ i j : Nat, i < j → ∀ x y, l[i]? = some x → l[j]? = some y → x.n < y.n) → ascO s l = true
  | [], _, _, _ => rfl
  | a :: r, s, h, h2 => by
    have h0 := h a (by simp)
    simp only [ascO, Bool.and_eq_true, decide_eq_true_eq]
    refine ⟨h0, ascO_of (fun y hy => ⟨(h y (by simp [hy])).1, ?_⟩) fun i j hij x y hx hy => h2 (i + 1) (j + 1) (by omega) x y (by simpa using hx) (by simpa using hy)⟩
    obtain ⟨j, hj⟩ := List.getElem?_of_mem hy
    exact h2 0 (j + 1) (by omega) a y rfl (by simpa using hj)
theorem limU_ok {f g : Int} {k : Nat} (hf : 0 ≤ f ∧ f ≤ 255) (hg : 0 ≤ g ∧ g ≤ 255) (hk : k ≤ 64) : snOk (limU f g k) = true := by
  have hr : ascO (f + 1) (limL (f + 2 + g) k) = true := by
    refine ascO_of (fun y hy => ?_) fun i j hij x y hx hy => ?_
    · obtain ⟨i, hi⟩ := List.getElem?_of_mem hy
      obtain ⟨hi, rfl⟩ := limL_get hi
      exact ⟨limO_ok _ _ (by omega), by simp only [limO]; omega⟩
    · obtain ⟨_, rfl⟩ := limL_get hx
      obtain ⟨_, rfl⟩ := limL_get hy
      simp only [limO]; omega
  exact snOk_of (by show 0 ≤ f; omega) (by show f ≤ _; omega) (by show (limL (f + 2 + g) k).length ≤ 64; rw [limL_length]; exact hk) hr
theorem lim_iss {f : Int} {k : Nat} (hf : 0 ≤ f ∧ f ≤ 255) (hk : k < 64) : issS (limS f k) 3 ((k % 6 : Nat) : Int) ((k % 2 : Nat) : Int) = (limS f (k + 1), ⟨f + 1 + k, 3, ((k % 6 : Nat) : Int), ((k % 2 : Nat) : Int)⟩, 0) := by
  simp only [issS, limS_ok hf (Nat.le_of_lt hk), limO_fit, if_true]
  rw [if_neg (by simp only [limS, limL_length]; omega)]
  simp only [limS, limL_snoc, limO, Prod.mk.injEq, Sd.mk.injEq, and_true]
  omega
theorem lim_iss_no {f : Int} (hf : 0 ≤ f ∧ f ≤ 255) : (issS (limS f 64) 3 0 0).2.2 = 10 := by
  have h := limO_fit 0
  have h' : fitE 3 0 0 = 0 := h
  simp only [issS, limS_ok hf (Nat.le_refl 64), h', if_true]
  rw [if_pos (.inl (by simp [limS, limL_length]))]
theorem lim_end {f g x : Int} {k : Nat} (h : f + 2 + g + k ≤ x) : bsI ((limL (f + 2 + g) k).map Od.n) x = k := by
  refine bsI_eq _ _ _ (by simp [limL_length]) (fun i hi y hy => ?_) (fun i hi y hy => ?_)
  · rw [List.getElem?_map] at hy
    obtain ⟨z, hz, rfl⟩ := Option.map_eq_some_iff.1 hy
    obtain ⟨_, rfl⟩ := limL_get hz
    simp only [limO]; omega
  · have := (List.getElem?_eq_some_iff.1 hy).1
    simp [limL_length] at this
    omega
theorem lim_tak {f g : Int} {k : Nat} (hf : 0 ≤ f ∧ f ≤ 255) (hg : 0 ≤ g ∧ g ≤ 255) (hk : k < 64) : takT (limU f g k) ⟨f + 1 + k + (1 + g), 3, ((k % 6 : Nat) : Int), ((k % 2 : Nat) : Int)⟩ = (limU f g (k + 1), [], f, 0) := by
  have hw : (⟨f + 1 + k + (1 + g), 3, ((k % 6 : Nat) : Int), ((k % 2 : Nat) : Int)⟩ : Od) = limO (f + 2 + g) k := by simp only [limO, Od.mk.injEq, and_true]; omega
  rw [hw]
  have hu := limU_ok (k := k) hf hg (Nat.le_of_lt hk)
  have ho := limO_ok (f + 2 + g) k (by omega)
  have hb : bsI ((limL (f + 2 + g) k).map Od.n) (limO (f + 2 + g) k).n = k := lim_end (by simp only [limO]; omega)
  have hx : (limO (f + 2 + g) k).n = f + 2 + g + k := rfl
  simp only [takT, hu, ho, if_true]
  simp only [limU, hb]
  rw [if_neg (by omega), if_neg (by omega), if_neg (by rw [List.getElem?_eq_none (by simp [limL_length])]; simp), if_neg (by rw [limL_length]; omega)]
  rw [List.take_of_length_le (by rw [limL_length]; exact Nat.le_refl _), List.drop_of_length_le (by rw [limL_length]; exact Nat.le_refl _), limL_snoc]
theorem lim_tak_no {f g : Int} (hf : 0 ≤ f ∧ f ≤ 255) (hg : 0 ≤ g ∧ g ≤ 255) : (takT (limU f g 64) ⟨1048576, 3, 0, 0⟩).2.2.2 = 10 := by
  have hu := limU_ok (k := 64) hf hg (Nat.le_refl 64)
  have ho : odOk ⟨1048576, 3, 0, 0⟩ = true := by decide +kernel
  have hb : bsI ((limL (f + 2 + g) 64).map Od.n) 1048576 = 64 := lim_end (by omega)
  simp only [takT, hu, ho, if_true]
  simp only [limU, hb]
  rw [if_neg (by omega), if_neg (by omega), if_neg (by rw [List.getElem?_eq_none (by simp [limL_length])]; simp), if_pos (by rw [limL_length])]
theorem lim_tak_last {f g : Int} (hf : 0 ≤ f ∧ f ≤ 255) (hg : 0 ≤ g ∧ g ≤ 255) : (takT (limU f g 64) (limO (f + 2 + g) 63)).2.2.2 = 0 := by
  have hu := limU_ok (k := 64) hf hg (Nat.le_refl 64)
  have ho := limO_ok (f + 2 + g) 63 (by omega)
  have hx : (limO (f + 2 + g) 63).n = f + 2 + g + 63 := rfl
  have hm : limO (f + 2 + g) 63 ∈ limL (f + 2 + g) 64 := List.mem_map.2 ⟨63, by simp, rfl⟩
  have hb := (bsI_mem ((limL (f + 2 + g) 64).map Od.n) (limO (f + 2 + g) 63).n (od_Asc (snOk_l hu).2.2.2)).2 (List.mem_map.2 ⟨_, hm, rfl⟩)
  have h1 : ¬ (limO (f + 2 + g) 63).n ≤ (limU f g 64).d := by show ¬ _ ≤ f; omega
  have h2 : ¬ (limO (f + 2 + g) 63).n = (limU f g 64).d + 1 := by show ¬ _ = f + 1; omega
  unfold takT
  rw [if_pos hu, if_pos ho, if_neg h1, if_neg h2, if_pos (show ((limU f g 64).l.map Od.n)[bsI ((limU f g 64).l.map Od.n) (limO (f + 2 + g) 63).n]? = _ from hb)]
theorem ok_law27_OrdersLimits (f g : Int) (hf : 0 ≤ f ∧ f ≤ 255) (hg : 0 ≤ g ∧ g ≤ 255) :
    PC prog n_law27_OrdersLimits [.int .u8 f, .int .u8 g] (.bool true) := by
  refine PC_of_body b_law27_OrdersLimits (by simp) ?_
  simp only [c_law27_OrdersLimits, go_sem, Int.reduceEq, Int.reduceLT, Int.reduceLE, Int.reduceToNat, Nat.reduceLT, Nat.reduceEqDiff, Nat.reduceAdd, Nat.reduceLeDiff, Nat.reduceSub, Nat.reduceMul, ↓reduceIte, reduceCtorEq, w_app_nl]
  try simp (maxSteps := 500000) (disch := omega) only [go_sem, Int.reduceEq, Int.reduceLT, Int.reduceLE, Int.reduceToNat, Nat.reduceLT, Nat.reduceEqDiff, Nat.reduceAdd, Nat.reduceLeDiff, Nat.reduceSub, Nat.reduceMul, ↓reduceIte, reduceCtorEq, wrap_id, w_ite_ne, w_ite_lt, Nat.sub_zero, Nat.sub_self]
  refine call_pc ok_law27_sane (by simp) ?_
  try simp (maxSteps := 500000) (disch := omega) only [go_sem, Int.reduceEq, Int.reduceLT, Int.reduceLE, Int.reduceToNat, Nat.reduceLT, Nat.reduceEqDiff, Nat.reduceAdd, Nat.reduceLeDiff, Nat.reduceSub, Nat.reduceMul, ↓reduceIte, reduceCtorEq, wrap_id, w_ite_ne, w_ite_lt, Nat.sub_zero, Nat.sub_self]
  refine awp_upF [4, 7, 8, 9, 10, 11, 12, 13, 14, 35, 36, 37, 38, 39, 40, 41, 42, 43, 44, 45, 46, 47, 48, 49, 50, 51, 52, 53, 54, 55, 56, 57, 58, 59, 60, 61, 62, 63, 64, 65, 66, 67, 68, 69, 70, 71, 72, 73, 74, 75, 76, 77, 78, 79, 80] (by kernel_rfl) 64 (fun k e σ => e 7 = .int .i64 k ∧ (∃ Y, YL Y (limS f k).l ∧ σ.ob 0 = some ⟨0, 2, 29, false, true, [.agg [.int .i64 (f + 1 + k), Y]]⟩) ∧ (∃ Z, YL Z (limU f g k).l ∧ σ.ob 1 = some ⟨1, 2, 31, false, true, [.agg [.int .i64 f, Z]]⟩)) ?_ ?_
  · refine ⟨(by first | ((try simp (maxSteps := 1000000) only [go_sem, Int.reduceEq, Int.reduceLT, Int.reduceLE, Int.reduceToNat, Nat.reduceLT, Nat.reduceEqDiff, Nat.reduceAdd, Nat.reduceLeDiff, Nat.reduceSub, Nat.reduceMul, ↓reduceIte, reduceCtorEq, w_app_nl]); done) | ((try simp (maxSteps := 1000000) only [go_sem, Int.reduceEq, Int.reduceLT, Int.reduceLE, Int.reduceToNat, Nat.reduceLT, Nat.reduceEqDiff, Nat.reduceAdd, Nat.reduceLeDiff, Nat.reduceSub, Nat.reduceMul, ↓reduceIte, reduceCtorEq, w_app_nl]); rfl) | ((try simp (maxSteps := 1000000) (disch := omega) only [go_sem, Int.reduceEq, Int.reduceLT, Int.reduceLE, Int.reduceToNat, Nat.reduceLT, Nat.reduceEqDiff, Nat.reduceAdd, Nat.reduceLeDiff, Nat.reduceSub, Nat.reduceMul, ↓reduceIte, reduceCtorEq, w_app_nl, wrap_id, w_ite_ne, w_ite_lt]); rfl) | (simp (maxSteps := 1000000) (disch := omega) only [go_sem, Int.reduceEq, Int.reduceLT, Int.reduceLE, Int.reduceToNat, Nat.reduceLT, Nat.reduceEqDiff, Nat.reduceAdd, Nat.reduceLeDiff, Nat.reduceSub, Nat.reduceMul, ↓reduceIte, reduceCtorEq, w_app_nl, wrap_id, w_ite_ne, w_ite_lt]; done)), ⟨.nil, .inr ⟨rfl, rfl⟩, ?_⟩, ⟨.nil, .inr ⟨rfl, rfl⟩, ?_⟩⟩
    · try simp (maxSteps := 500000) (disch := omega) only [go_sem, Int.reduceEq, Int.reduceLT, Int.reduceLE, Int.reduceToNat, Nat.reduceLT, Nat.reduceEqDiff, Nat.reduceAdd, Nat.reduceLeDiff, Nat.reduceSub, Nat.reduceMul, ↓reduceIte, reduceCtorEq, wrap_id, w_ite_ne, w_ite_lt, Nat.sub_zero, Nat.sub_self]
      simp [Int.add_comm]
    · try simp (maxSteps := 500000) (disch := omega) only [go_sem, Int.reduceEq, Int.reduceLT, Int.reduceLE, Int.reduceToNat, Nat.reduceLT, Nat.reduceEqDiff, Nat.reduceAdd, Nat.reduceLeDiff, Nat.reduceSub, Nat.reduceMul, ↓reduceIte, reduceCtorEq, wrap_id, w_ite_ne, w_ite_lt, Nat.sub_zero, Nat.sub_self]
  · rintro k fe ob c hk ⟨h7, ⟨Y, hY, h0⟩, ⟨Z, hZ, h1⟩⟩
    simp (maxSteps := 1000000) only [go_sem, Int.reduceEq, Int.reduceLT, Int.reduceLE, Int.reduceToNat, Nat.reduceLT, Nat.reduceEqDiff, Nat.reduceAdd, Nat.reduceLeDiff, Nat.reduceSub, Nat.reduceMul, ↓reduceIte, reduceCtorEq, w_app_nl] at h7 h0 h1
    have Yp := hY.pur1
    have Zp := hZ.pur1
    try simp (maxSteps := 500000) (disch := omega) only [go_sem, Int.reduceEq, Int.reduceLT, Int.reduceLE, Int.reduceToNat, Nat.reduceLT, Nat.reduceEqDiff, Nat.reduceAdd, Nat.reduceLeDiff, Nat.reduceSub, Nat.reduceMul, ↓reduceIte, reduceCtorEq, wrap_id, w_ite_ne, w_ite_lt, Nat.sub_zero, Nat.sub_self, h7]
    refine cond_d (fun hlt => ?_) (fun hge => ?_)
    · have hk2 : k < 64 := by omega
      have e6 : ((k : Int).tmod 6) = ((k % 6 : Nat) : Int) := rfl
      have e2 : ((k : Int).tmod 2) = ((k % 2 : Nat) : Int) := rfl
      try simp (maxSteps := 500000) (disch := omega) only [go_sem, Int.reduceEq, Int.reduceLT, Int.reduceLE, Int.reduceToNat, Nat.reduceLT, Nat.reduceEqDiff, Nat.reduceAdd, Nat.reduceLeDiff, Nat.reduceSub, Nat.reduceMul, ↓reduceIte, reduceCtorEq, wrap_id, w_ite_ne, w_ite_lt, Nat.sub_zero, Nat.sub_self, h7, h0, e6, e2]
      have hc1 := ok_orders_Issue (limS f k) 3 ((k % 6 : Nat) : Int) ((k % 2 : Nat) : Int) (by show (limL (f + 1) k).length ≤ _; rw [limL_length]; omega)
      rw [lim_iss hf hk2] at hc1
      have hc2 := ok_orders_Take (limU f g k) ⟨f + 1 + k + (1 + g), 3, ((k % 6 : Nat) : Int), ((k % 2 : Nat) : Int)⟩ (by show (limL (f + 2 + g) k).length ≤ _; rw [limL_length]; omega)
      rw [lim_tak hf hg hk2] at hc2
      have n1 : (limS f (k + 1)).n = f + 1 + k + 1 := by show f + 1 + ((k + 1 : Nat) : Int) = _; omega
      have n2 : (limU f g (k + 1)).d = f := rfl
      generalize hS : limS f (k + 1) = S at *
      generalize hU : limU f g (k + 1) = U at *
      simp only at hc1 hc2
      refine call_pc (pc_nl hc1 (.cons (hY.nlr _) (NlRs.refl _))) (by simp [Yp, go_sem]) ?_
      try simp (maxSteps := 500000) (disch := omega) only [go_sem, Int.reduceEq, Int.reduceLT, Int.reduceLE, Int.reduceToNat, Nat.reduceLT, Nat.reduceEqDiff, Nat.reduceAdd, Nat.reduceLeDiff, Nat.reduceSub, Nat.reduceMul, ↓reduceIte, reduceCtorEq, wrap_id, w_ite_ne, w_ite_lt, Nat.sub_zero, Nat.sub_self, sdv, odv, h0, h1, n1]
      refine call_pc (pc_nl hc2 (.cons (hZ.nlr _) (NlRs.refl _))) (by simp [Zp, go_sem, odv]) ?_
      have en : ods [] = [] := rfl
      try simp (maxSteps := 500000) (disch := omega) only [go_sem, Int.reduceEq, Int.reduceLT, Int.reduceLE, Int.reduceToNat, Nat.reduceLT, Nat.reduceEqDiff, Nat.reduceAdd, Nat.reduceLeDiff, Nat.reduceSub, Nat.reduceMul, ↓reduceIte, reduceCtorEq, wrap_id, w_ite_ne, w_ite_lt, Nat.sub_zero, Nat.sub_self, snv, odv, h1, n1, n2, h7, en, decide_true]
      refine up_next hk2 ⟨(by first | ((try simp (maxSteps := 1000000) only [go_sem, Int.reduceEq, Int.reduceLT, Int.reduceLE, Int.reduceToNat, Nat.reduceLT, Nat.reduceEqDiff, Nat.reduceAdd, Nat.reduceLeDiff, Nat.reduceSub, Nat.reduceMul, ↓reduceIte, reduceCtorEq, w_app_nl]); done) | ((try simp (maxSteps := 1000000) only [go_sem, Int.reduceEq, Int.reduceLT, Int.reduceLE, Int.reduceToNat, Nat.reduceLT, Nat.reduceEqDiff, Nat.reduceAdd, Nat.reduceLeDiff, Nat.reduceSub, Nat.reduceMul, ↓reduceIte, reduceCtorEq, w_app_nl]); rfl) | ((try simp (maxSteps := 1000000) (disch := omega) only [go_sem, Int.reduceEq, Int.reduceLT, Int.reduceLE, Int.reduceToNat, Nat.reduceLT, Nat.reduceEqDiff, Nat.reduceAdd, Nat.reduceLeDiff, Nat.reduceSub, Nat.reduceMul, ↓reduceIte, reduceCtorEq, w_app_nl, wrap_id, w_ite_ne, w_ite_lt]); rfl) | (simp (maxSteps := 1000000) (disch := omega) only [go_sem, Int.reduceEq, Int.reduceLT, Int.reduceLE, Int.reduceToNat, Nat.reduceLT, Nat.reduceEqDiff, Nat.reduceAdd, Nat.reduceLeDiff, Nat.reduceSub, Nat.reduceMul, ↓reduceIte, reduceCtorEq, w_app_nl, wrap_id, w_ite_ne, w_ite_lt]; done)), ⟨_, .inl (by rw [hS]), ?_⟩, ⟨_, .inl (by rw [hU]), ?_⟩⟩
      · rw [show f + 1 + ((k + 1 : Nat) : Int) = f + 1 + k + 1 by omega]
        try simp (maxSteps := 500000) (disch := omega) only [go_sem, Int.reduceEq, Int.reduceLT, Int.reduceLE, Int.reduceToNat, Nat.reduceLT, Nat.reduceEqDiff, Nat.reduceAdd, Nat.reduceLeDiff, Nat.reduceSub, Nat.reduceMul, ↓reduceIte, reduceCtorEq, wrap_id, w_ite_ne, w_ite_lt, Nat.sub_zero, Nat.sub_self]
      · try simp (maxSteps := 500000) (disch := omega) only [go_sem, Int.reduceEq, Int.reduceLT, Int.reduceLE, Int.reduceToNat, Nat.reduceLT, Nat.reduceEqDiff, Nat.reduceAdd, Nat.reduceLeDiff, Nat.reduceSub, Nat.reduceMul, ↓reduceIte, reduceCtorEq, wrap_id, w_ite_ne, w_ite_lt, Nat.sub_zero, Nat.sub_self]
    · have hk3 : k = 64 := by omega
      subst hk3
      have l1 : (limS f 64).l.length = 64 := limL_length _ _
      have l2 : (limU f g 64).l.length = 64 := limL_length _ _
      have hc1 := ok_orders_Issue (limS f 64) 3 0 0 (by omega)
      have hr1 := lim_iss_no hf
      have hc2 := ok_orders_Take (limU f g 64) ⟨1048576, 3, 0, 0⟩ (by omega)
      have hr2 := lim_tak_no hf hg
      have hc3 := ok_orders_Take (limU f g 64) (limO (f + 2 + g) 63) (by omega)
      have hr3 := lim_tak_last hf hg
      have hv1 := ok_orders_Valid (limS f 64) (by omega)
      rw [limS_ok hf (Nat.le_refl _)] at hv1
      have hv2 := ok_orders_Right (limU f g 64) (by omega)
      rw [limU_ok hf hg (Nat.le_refl _)] at hv2
      generalize issS (limS f 64) 3 0 0 = T1 at *
      obtain ⟨A1, A2, A3⟩ := T1
      generalize takT (limU f g 64) ⟨1048576, 3, 0, 0⟩ = T2 at *
      obtain ⟨B1, B2, B3, B4⟩ := T2
      generalize takT (limU f g 64) (limO (f + 2 + g) 63) = T3 at *
      obtain ⟨C1, C2, C3, C4⟩ := T3
      simp only at hr1 hr2 hr3
      subst hr1 hr2 hr3
      try simp (maxSteps := 500000) (disch := omega) only [go_sem, Int.reduceEq, Int.reduceLT, Int.reduceLE, Int.reduceToNat, Nat.reduceLT, Nat.reduceEqDiff, Nat.reduceAdd, Nat.reduceLeDiff, Nat.reduceSub, Nat.reduceMul, ↓reduceIte, reduceCtorEq, wrap_id, w_ite_ne, w_ite_lt, Nat.sub_zero, Nat.sub_self, h0, h1]
      refine call_pc (pc_nl hc1 (.cons (hY.nlr _) (NlRs.refl _))) (by simp [Yp, go_sem]) ?_
      try simp (maxSteps := 500000) (disch := omega) only [go_sem, Int.reduceEq, Int.reduceLT, Int.reduceLE, Int.reduceToNat, Nat.reduceLT, Nat.reduceEqDiff, Nat.reduceAdd, Nat.reduceLeDiff, Nat.reduceSub, Nat.reduceMul, ↓reduceIte, reduceCtorEq, wrap_id, w_ite_ne, w_ite_lt, Nat.sub_zero, Nat.sub_self, sdv, odv, h1]
      refine call_pc (pc_nl hc2 (.cons (hZ.nlr _) (NlRs.refl _))) (by simp [Zp, go_sem, odv]) ?_
      try simp (maxSteps := 500000) (disch := omega) only [go_sem, Int.reduceEq, Int.reduceLT, Int.reduceLE, Int.reduceToNat, Nat.reduceLT, Nat.reduceEqDiff, Nat.reduceAdd, Nat.reduceLeDiff, Nat.reduceSub, Nat.reduceMul, ↓reduceIte, reduceCtorEq, wrap_id, w_ite_ne, w_ite_lt, Nat.sub_zero, Nat.sub_self, snv, odv, h1]
      rcases hZ with rfl | ⟨rfl, h⟩
      rotate_left
      · rw [h] at l2; simp at l2
      have hg63 : (ods (limU f g 64).l)[63]? = some (odv (limO (f + 2 + g) 63)) := by
        rw [ods_get]; simp [limU, limL, List.getElem?_map, List.getElem?_range]
      have e63 : ((64 : Int) - 1).toNat = 63 := rfl
      have e64 : ((64 : Nat) : Int) = 64 := rfl
      try simp (maxSteps := 500000) (disch := omega) only [go_sem, Int.reduceEq, Int.reduceLT, Int.reduceLE, Int.reduceToNat, Nat.reduceLT, Nat.reduceEqDiff, Nat.reduceAdd, Nat.reduceLeDiff, Nat.reduceSub, Nat.reduceMul, ↓reduceIte, reduceCtorEq, wrap_id, w_ite_ne, w_ite_lt, Nat.sub_zero, Nat.sub_self, h1, ods_length, l2, e64, e63, hg63, odv]
      refine ⟨by omega, by omega, ?_⟩
      refine call_pc hc3 (by simp [go_sem, odv, snv]) ?_
      try simp (maxSteps := 500000) (disch := omega) only [go_sem, Int.reduceEq, Int.reduceLT, Int.reduceLE, Int.reduceToNat, Nat.reduceLT, Nat.reduceEqDiff, Nat.reduceAdd, Nat.reduceLeDiff, Nat.reduceSub, Nat.reduceMul, ↓reduceIte, reduceCtorEq, wrap_id, w_ite_ne, w_ite_lt, Nat.sub_zero, Nat.sub_self, snv, odv, decide_true, h0, h1]
      refine call_pc (pc_nl hv1 (.cons (hY.nlr _) .nil)) (by simp [Yp, go_sem]) ?_
      try simp (maxSteps := 500000) (disch := omega) only [go_sem, Int.reduceEq, Int.reduceLT, Int.reduceLE, Int.reduceToNat, Nat.reduceLT, Nat.reduceEqDiff, Nat.reduceAdd, Nat.reduceLeDiff, Nat.reduceSub, Nat.reduceMul, ↓reduceIte, reduceCtorEq, wrap_id, w_ite_ne, w_ite_lt, Nat.sub_zero, Nat.sub_self, h1]
      refine call_pc hv2 (by simp [go_sem, snv]) ?_
      try simp (maxSteps := 500000) (disch := omega) only [go_sem, Int.reduceEq, Int.reduceLT, Int.reduceLE, Int.reduceToNat, Nat.reduceLT, Nat.reduceEqDiff, Nat.reduceAdd, Nat.reduceLeDiff, Nat.reduceSub, Nat.reduceMul, ↓reduceIte, reduceCtorEq, wrap_id, w_ite_ne, w_ite_lt, Nat.sub_zero, Nat.sub_self]
      exact Pub.of_eq rfl rfl
theorem ascO_len : ∀ {l : List Od} {s M : Int}, ascO s l = true → (∀ y ∈ l, y.n ≤ M) → l = [] ∨ s + l.length ≤ M
  | [], _, _, _, _ => .inl rfl
  | a :: r, s, M, h, hM => by
    simp only [ascO, Bool.and_eq_true, decide_eq_true_eq] at h
    right
    have ha := hM a (by simp)
    rcases ascO_len h.2 (fun y hy => hM y (by simp [hy])) with rfl | h3
    · simp; omega
    · simp only [List.length_cons]; omega
theorem takT_mem (u : Sn) (o : Od) : ∀ y ∈ (takT u o).1.l, y ∈ u.l ∨ y = o := by
  unfold takT
  intro y hy
  split at hy
  · split at hy
    · split at hy
      · exact .inl hy
      · split at hy
        · exact .inl (List.mem_of_mem_drop hy)
        · split at hy
          · exact .inl hy
          · split at hy
            · simp at hy
            · simp only [List.mem_append, List.mem_cons] at hy
              rcases hy with h | h | h
              · exact .inl (List.mem_of_mem_take h)
              · exact .inr h
              · exact .inl (List.mem_of_mem_drop h)
    · simp at hy
  · simp at hy
/-- What holds of a sender, a station and what has been issued (I); D of it has been carried out. -/
structure LnI (I : List Od) (s : Sd) (u : Sn) (D : Nat) (cf : Int) : Prop where
  hI : ∀ (k : Nat) o, I[k]? = some o → odOk o = true ∧ o.n = (k : Int) + 1
  len : I.length ≤ 60
  sn : s.n = (I.length : Int) + 1
  sl : ∃ c, c ≤ D ∧ s.l = I.drop c
  ud : u.d = D
  dl : D ≤ I.length
  ua : ascO ((D : Int) + 1) u.l = true
  um : ∀ x ∈ u.l, x ∈ I
  c0 : 0 ≤ cf
  c1 : cf ≤ D
theorem LnI.start : LnI [] ⟨1, []⟩ ⟨0, []⟩ 0 0 := ⟨by simp, by simp, rfl, ⟨0, Nat.le_refl _, rfl⟩, rfl, by simp, rfl, by simp, by simp, by simp⟩
theorem LnI.issue {I : List Od} {s s' : Sd} {u : Sn} {D : Nat} {cf k i v : Int} {o : Od} (h : LnI I s u D cf) (hl : I.length < 60) (hi : issS s k i v = (s', o, 0)) : LnI (I ++ [o]) s' u D cf := by
  unfold issS at hi
  by_cases hs : sdOk s = true
  rotate_left
  · rw [if_neg hs] at hi; simp at hi
  rw [if_pos hs] at hi
  by_cases hf : fitE k i v = 0
  rotate_left
  · rw [if_neg hf] at hi
    simp only [Prod.mk.injEq] at hi
    exact absurd hi.2.2 hf
  rw [if_pos hf] at hi
  by_cases h1 : s.l.length = 64 ∨ s.n = 1073741824
  · rw [if_pos h1] at hi; simp at hi
  rw [if_neg h1] at hi
  simp only [Prod.mk.injEq] at hi
  obtain ⟨rfl, rfl, _⟩ := hi
  obtain ⟨c, hc, hsl⟩ := h.sl
  have hsn := h.sn
  have hdl := h.dl
  refine ⟨fun k' o' ho' => ?_, by simp; omega, by simp; omega, ⟨c, hc, ?_⟩, h.ud, by simp; omega, h.ua, fun x hx => List.mem_append_left _ (h.um x hx), h.c0, h.c1⟩
  · rcases Nat.lt_or_ge k' I.length with hk | hk
    · rw [List.getElem?_append_left hk] at ho'
      exact h.hI k' o' ho'
    · rw [List.getElem?_append_right hk] at ho'
      have hk2 := (List.getElem?_eq_some_iff.1 ho').1
      simp at hk2
      have : k' - I.length = 0 := by omega
      rw [this] at ho'
      simp at ho'
      subst ho'
      exact ⟨odOk_of (by simp only; omega) (by simp only; omega) hf, by simp only; omega⟩
  · rw [hsl, List.drop_append_of_le_length (by omega)]
theorem LnI.ok {I : List Od} {s : Sd} {u : Sn} {D : Nat} {cf : Int} (h : LnI I s u D cf) : snOk u = true ∧ sdOk s = true ∧ (u.l = [] ∨ (D : Int) + 1 + u.l.length ≤ I.length) := by
  have hlen := h.len
  have hdl := h.dl
  have hud := h.ud
  have hul := ascO_len h.ua (M := (I.length : Int)) fun y hy => by
    obtain ⟨k, hk⟩ := List.getElem?_of_mem (h.um y hy)
    have := (h.hI k y hk).2
    have := (List.getElem?_eq_some_iff.1 hk).1
    omega
  obtain ⟨c, hc, hsl⟩ := h.sl
  refine ⟨snOk_of (by omega) (by omega) ?_ (by rw [hud]; exact h.ua), sdOk_of (by rw [h.sn]; omega) (by rw [h.sn]; omega) (by rw [hsl]; simp; omega) ?_, hul⟩
  · rcases hul with h0 | h0
    · rw [h0]; simp
    · omega
  · refine runO_of fun k o ho => ?_
    have hk := (List.getElem?_eq_some_iff.1 ho).1
    rw [hsl, List.getElem?_drop] at ho
    have := h.hI _ o ho
    refine ⟨this.1, ?_⟩
    rw [this.2, h.sn, hsl, List.length_drop]
    rw [hsl, List.length_drop] at hk
    omega
theorem LnI.conf {I : List Od} {s : Sd} {u : Sn} {D : Nat} {cf x : Int} (h : LnI I s u D cf) (h0 : 0 ≤ x) (h1 : x ≤ D) : ∃ s', cnfS s x = (s', 0) ∧ LnI I s' u D cf ∧ (x = I.length → s'.l = []) := by
  have hs := h.ok.2.1
  have hdl := h.dl
  have hsn := h.sn
  obtain ⟨c, hc, hsl⟩ := h.sl
  have hb := sdOk_l hs
  have hf := run_filter (n := x) hb.2.2.2
  refine ⟨⟨s.n, s.l.filter fun o => !decide (o.n ≤ x)⟩, by simp only [cnfS, hs, if_true]; rw [if_neg (by omega)], ⟨h.hI, h.len, h.sn, ⟨c + (x - (s.n - s.l.length) + 1).toNat, ?_, ?_⟩, h.ud, h.dl, h.ua, h.um, h.c0, h.c1⟩, fun hx => ?_⟩
  · have : s.l.length = I.length - c := by rw [hsl, List.length_drop]
    omega
  · show s.l.filter _ = _
    rw [hf, hsl, List.drop_drop]
  · show s.l.filter _ = _
    rw [hf]
    refine List.drop_of_length_le ?_
    have : s.l.length = I.length - c := by rw [hsl, List.length_drop]
    omega
theorem LnI.take {I : List Od} {s : Sd} {u : Sn} {D : Nat} {cf : Int} {o : Od} (h : LnI I s u D cf) (ho : o ∈ I) :
    ∃ (u' : Sn) (l : List Od) (D' : Nat), takT u o = (u', l, (D' : Int), 0) ∧ LnI I s u' D' D' ∧ I.take D' = I.take D ++ l ∧ D ≤ D' ∧ (o.n = (D : Int) + 1 → D < D') := by
  obtain ⟨hu, hs, hul⟩ := h.ok
  have hlen := h.len
  have hdl := h.dl
  have hud := h.ud
  obtain ⟨k, hk⟩ := List.getElem?_of_mem ho
  obtain ⟨hoo, hon⟩ := h.hI k o hk
  have hkl := (List.getElem?_eq_some_iff.1 hk).1
  -- whatever comes of it
  have key : ∀ (u' : Sn) (l : List Od) (D' : Nat), takT u o = (u', l, (D' : Int), 0) → D ≤ D' → D' ≤ I.length → I.take D' = I.take D ++ l → (o.n = (D : Int) + 1 → D < D') → ∃ (u' : Sn) (l : List Od) (D' : Nat), takT u o = (u', l, (D' : Int), 0) ∧ LnI I s u' D' D' ∧ I.take D' = I.take D ++ l ∧ D ≤ D' ∧ (o.n = (D : Int) + 1 → D < D') := by
    intro u' l D' ht hD hDl hT hn
    obtain ⟨_, _, hx, hd, _, _⟩ := tak_ok ht
    have hm := takT_mem u o
    rw [ht] at hm
    obtain ⟨c, hc, hsl⟩ := h.sl
    refine ⟨u', l, D', ht, ⟨h.hI, h.len, h.sn, ⟨c, by omega, hsl⟩, hd.symm, hDl, ?_, fun y hy => ?_, by omega, by omega⟩, hT, hD, hn⟩
    · rw [hd]; exact (snOk_l hx).2.2.2
    · rcases hm y hy with h | rfl
      · exact ‹LnI I s u D cf›.um y h
      · exact ho
  by_cases h1 : o.n ≤ u.d
  · exact key u [] D (by simp only [takT, hu, hoo, if_true]; rw [if_pos h1, hud]) (Nat.le_refl _) hdl (by simp) (by omega)
  by_cases h2 : o.n = u.d + 1
  · have hkD : k = D := by omega
    subst hkD
    have hR := runLen_le u.l o.n
    have hget : ∀ j, j < runLen o.n u.l → u.l[j]? = I[k + 1 + j]? := fun j hj => by
      have hg : u.l[j]? = some (u.l[j]'(by omega)) := List.getElem?_eq_getElem (by omega)
      have h3 := runLen_all hj hg
      obtain ⟨q, hq⟩ := List.getElem?_of_mem (h.um _ (List.mem_of_getElem? hg))
      have h4 := (h.hI q _ hq).2
      have : q = k + 1 + j := by omega
      rw [hg, ← hq, this]
    have hDl : k + 1 + runLen o.n u.l ≤ I.length := by
      rcases Nat.eq_zero_or_pos (runLen o.n u.l) with h0 | h0
      · omega
      · have h3 := hget (runLen o.n u.l - 1) (by omega)
        rw [List.getElem?_eq_getElem (show runLen o.n u.l - 1 < u.l.length by omega)] at h3
        have := (List.getElem?_eq_some_iff.1 h3.symm).1
        omega
    refine key ⟨u.d + 1 + runLen o.n u.l, u.l.drop (runLen o.n u.l)⟩ (o :: u.l.take (runLen o.n u.l)) (k + 1 + runLen o.n u.l) (by simp only [takT, hu, hoo, if_true]; rw [if_neg h1, if_pos h2, hud]; simp) (by omega) hDl ?_ (by omega)
    rw [show k + 1 + runLen o.n u.l = k + (1 + runLen o.n u.l) by omega, List.take_add]
    congr 1
    apply List.ext_getElem?
    intro j
    rw [List.getElem?_take]
    cases j with
    | zero => rw [if_pos (by omega), List.getElem?_drop]; simpa using hk
    | succ j =>
      rw [List.getElem?_cons_succ, List.getElem?_take]
      by_cases hj : j < runLen o.n u.l
      · rw [if_pos (by omega), if_pos hj, List.getElem?_drop, hget j hj]
        congr 1; omega
      · rw [if_neg (by omega), if_neg hj]
  by_cases h3 : (u.l.map Od.n)[bsI (u.l.map Od.n) o.n]? = some o.n
  · exact key u [] D (by simp only [takT, hu, hoo, if_true]; rw [if_neg h1, if_neg h2, if_pos h3, hud]) (Nat.le_refl _) hdl (by simp) (by omega)
  · have h4 : ¬ u.l.length = 64 := by
      rcases hul with h0 | h0
      · rw [h0]; simp
      · omega
    exact key _ [] D (by simp only [takT, hu, hoo, if_true]; rw [if_neg h1, if_neg h2, if_neg h3, if_neg h4, hud]) (Nat.le_refl _) hdl (by simp) (by omega)
/-- X and Y name no object both -/
def Dj (X Y : AV) : Prop := ∀ i, Oth X i ∨ Oth Y i
theorem Dj.symm {X Y : AV} (h : Dj X Y) : Dj Y X := fun i => (h i).symm
theorem Dj.nil (X : AV) : Dj .nil X := fun i => .inl (Oth.nil i)
theorem Dj.kp {X X' Y : AV} {es : Nat} {ty : TypeId} {σ τ : St} {L : List AV} (h : Dj X Y) (hY : SlR es ty σ L Y) (hK : Kp σ X τ X') : Dj X' Y := fun i => by
  rcases Classical.em (Oth Y i) with h1 | h1
  · exact .inr h1
  · refine .inl (hK.2.2 i ?_ ((h i).resolve_right h1))
    rcases Nat.lt_or_ge i σ.n with h2 | h2
    · exact h2
    · exact absurd (hY.oth h2) h1
theorem SlR.dj {X X' Y : AV} {es : Nat} {ty : TypeId} {σ τ : St} {L : List AV} (hY : SlR es ty σ L Y) (h : Dj X Y) (hK : Kp σ X τ X') : SlR es ty τ L Y := hY.move hK.1 fun i hi hno => hK.2.1 i hi ((h i).resolve_right hno)
/-- the first three objects may change, and new ones come -/
theorem SlR.mv3 {Y : AV} {es : Nat} {ty : TypeId} {σ τ : St} {L : List AV} (hY : SlR es ty σ L Y) (o : ∀ i, i < 3 → Oth Y i) (hn : σ.n ≤ τ.n) (hf : ∀ i, i < σ.n → 3 ≤ i → τ.ob i = σ.ob i) : SlR es ty τ L Y :=
  hY.move hn fun i hi hno => hf i hi (by
    rcases Nat.lt_or_ge i 3 with h | h
    · exact absurd (o i h) hno
    · exact h)
def LnS (t : List Int) (T1 T2 : TypeId) (σ : St) (X6 X7 X8 : AV) (I : List Od) (s : Sd) (u : Sn) (D : Nat) : Prop :=
  (∃ at1, σ.ob 0 = some ⟨0, 2, ty_Deck, false, true, [deckV t at1]⟩) ∧ (∃ Y, YL Y s.l ∧ σ.ob 1 = some ⟨1, 2, T1, false, true, [.agg [.int .i64 s.n, Y]]⟩) ∧ (∃ Z, YL Z u.l ∧ σ.ob 2 = some ⟨2, 2, T2, false, true, [.agg [.int .i64 u.d, Z]]⟩) ∧
  SlR 4 ty_el_Order σ (ods I) X6 ∧ SlR 4 ty_el_Order σ (ods I) X7 ∧ SlR 4 ty_el_Order σ (ods (I.take D)) X8 ∧ (∀ i, i < 3 → Oth X6 i) ∧ (∀ i, i < 3 → Oth X7 i) ∧ (∀ i, i < 3 → Oth X8 i) ∧ Dj X6 X7 ∧ Dj X6 X8 ∧ Dj X7 X8
theorem LnS.trunc {t : List Int} {T1 T2 : TypeId} {σ : St} {X6 X7 X8 : AV} {I : List Od} {s : Sd} {u : Sn} {D : Nat} (h : LnS t T1 T2 σ X6 X7 X8 I s u D) (hn : 3 ≤ σ.n) : LnS t T1 T2 (σ.trunc σ.n) X6 X7 X8 I s u D := by
  obtain ⟨⟨at1, hd⟩, ⟨Y, hY, hs⟩, ⟨Z, hZ, hu⟩, h6, h7, h8, h⟩ := h
  have e : ∀ i, i < σ.n → (σ.trunc σ.n).ob i = σ.ob i := fun i hi => by simp only [St.trunc, if_pos hi]
  exact ⟨⟨at1, by rw [e 0 (by omega)]; exact hd⟩, ⟨Y, hY, by rw [e 1 (by omega)]; exact hs⟩, ⟨Z, hZ, by rw [e 2 (by omega)]; exact hu⟩, h6.move (Nat.le_refl _) fun i hi _ => e i hi, h7.move (Nat.le_refl _) fun i hi _ => e i hi, h8.move (Nat.le_refl _) fun i hi _ => e i hi, h⟩
theorem SlR.len' {es : Nat} {ty : TypeId} {σ σ' : St} {L : List AV} {X : AV} {K : AV → St → Prop} (h : SlR es ty σ L X) (k : K (.int .i64 L.length) σ') : lenC X σ' K := by
  rcases h with ⟨rfl, rfl⟩ | ⟨id, g, rfl, _⟩
  · simpa [lenC] using k
  · simpa [lenC] using k
theorem lenC_st {X : AV} {σ : St} {K : AV → St → Prop} (P : St → Prop) (h : P σ) (k : ∀ σ', P σ' → lenC X σ' K) : lenC X σ K := k σ h
theorem ok_law27_OrdersLines (t : List Int) : PC prog n_law27_OrdersLines [.list 1 (ints t)] (.bool true) := by
  refine PC_of_body b_law27_OrdersLines (by simp) ?_
  simp only [c_law27_OrdersLines, go_sem, Int.reduceEq, Int.reduceLT, Int.reduceLE, Int.reduceToNat, Nat.reduceLT, Nat.reduceEqDiff, Nat.reduceAdd, Nat.reduceLeDiff, Nat.reduceSub, Nat.reduceMul, ↓reduceIte, reduceCtorEq, w_app_nl]
  try simp (maxSteps := 500000) (disch := omega) only [go_sem, Int.reduceEq, Int.reduceLT, Int.reduceLE, Int.reduceToNat, Nat.reduceLT, Nat.reduceEqDiff, Nat.reduceAdd, Nat.reduceLeDiff, Nat.reduceSub, Nat.reduceMul, ↓reduceIte, reduceCtorEq, wrap_id, w_ite_ne, w_ite_lt, Nat.sub_zero, Nat.sub_self]
  refine call_pc ok_law27_sane (by simp) ?_
  try simp (maxSteps := 500000) (disch := omega) only [go_sem, Int.reduceEq, Int.reduceLT, Int.reduceLE, Int.reduceToNat, Nat.reduceLT, Nat.reduceEqDiff, Nat.reduceAdd, Nat.reduceLeDiff, Nat.reduceSub, Nat.reduceMul, ↓reduceIte, reduceCtorEq, wrap_id, w_ite_ne, w_ite_lt, Nat.sub_zero, Nat.sub_self]
  refine call_pc (ok_mk_Few t) (by simp [go_sem]) ?_
  try simp (maxSteps := 500000) (disch := omega) only [go_sem, Int.reduceEq, Int.reduceLT, Int.reduceLE, Int.reduceToNat, Nat.reduceLT, Nat.reduceEqDiff, Nat.reduceAdd, Nat.reduceLeDiff, Nat.reduceSub, Nat.reduceMul, ↓reduceIte, reduceCtorEq, wrap_id, w_ite_ne, w_ite_lt, Nat.sub_zero, Nat.sub_self]
  cases hfew : fewB t
  · try simp (maxSteps := 500000) (disch := omega) only [go_sem, Int.reduceEq, Int.reduceLT, Int.reduceLE, Int.reduceToNat, Nat.reduceLT, Nat.reduceEqDiff, Nat.reduceAdd, Nat.reduceLeDiff, Nat.reduceSub, Nat.reduceMul, ↓reduceIte, reduceCtorEq, wrap_id, w_ite_ne, w_ite_lt, Nat.sub_zero, Nat.sub_self]
    exact Pub.of_eq rfl rfl
  have hlt : t.length ≤ 9223372036854775807 := by simp [fewB] at hfew; omega
  try simp (maxSteps := 500000) (disch := omega) only [go_sem, Int.reduceEq, Int.reduceLT, Int.reduceLE, Int.reduceToNat, Nat.reduceLT, Nat.reduceEqDiff, Nat.reduceAdd, Nat.reduceLeDiff, Nat.reduceSub, Nat.reduceMul, ↓reduceIte, reduceCtorEq, wrap_id, w_ite_ne, w_ite_lt, Nat.sub_zero, Nat.sub_self]
  refine call_hc (ok_mk_New _ t) ?_
  try simp (maxSteps := 500000) (disch := omega) only [go_sem, Int.reduceEq, Int.reduceLT, Int.reduceLE, Int.reduceToNat, Nat.reduceLT, Nat.reduceEqDiff, Nat.reduceAdd, Nat.reduceLeDiff, Nat.reduceSub, Nat.reduceMul, ↓reduceIte, reduceCtorEq, wrap_id, w_ite_ne, w_ite_lt, Nat.sub_zero, Nat.sub_self]
  refine loop_cut [2, 6, 7, 8, 9, 10, 11, 12, 13, 14, 15, 16, 17, 18, 19, 20, 37, 38, 39, 40, 41, 42, 43, 44, 45, 46, 47, 48, 49, 50, 51, 52, 53, 54, 55, 56, 57, 58, 59, 60, 61, 62, 63, 64, 65, 66, 67, 68, 69, 70, 71, 72, 73, 74, 75, 76, 77, 78, 79, 80, 81, 82, 83, 84, 85, 86, 87, 88, 89, 90, 91, 92, 93, 94, 95, 96, 97, 98, 99, 100, 101, 102, 103, 104, 105, 106, 107, 108, 109, 110, 111, 112, 113, 114, 115, 116, 117, 118, 119, 120, 121, 122, 123, 124, 125, 126, 127, 128, 129, 130, 131, 132, 133, 134, 135, 136, 137, 138, 139, 140, 141, 142, 143, 144, 145] (by kernel_rfl) (fun e σ => 3 ≤ σ.n ∧ ∃ I s u D cf, LnI I s u D cf ∧ LnS t 29 31 σ (e 6) (e 7) (e 8) I s u D) ?_ ?_
  · refine awp_upG [2, 6, 7, 8, 9, 10, 11, 12, 13, 14, 15, 16, 17, 18, 19, 20, 37, 38, 39, 40, 41, 42, 43, 44, 45, 46, 47, 48, 49, 50, 51, 52, 53, 54, 55, 56, 57, 58, 59, 60, 61, 62, 63, 64, 65, 66, 67, 68, 69, 70, 71, 72, 73, 74, 75, 76, 77, 78, 79, 80, 81, 82, 83, 84, 85, 86, 87, 88, 89, 90, 91, 92, 93, 94, 95, 96, 97, 98, 99, 100, 101, 102, 103, 104, 105, 106, 107, 108, 109, 110, 111, 112, 113, 114, 115, 116, 117, 118, 119, 120, 121, 122, 123, 124, 125, 126, 127, 128, 129, 130, 131, 132, 133, 134, 135, 136, 137, 138, 139, 140, 141, 142, 143, 144, 145] (by kernel_rfl) 60 (fun k e σ => e 10 = .int .i64 k ∧ ∃ I s u D cf, e 9 = .int .i64 cf ∧ I.length ≤ k ∧ LnI I s u D cf ∧ LnS t 29 31 σ (e 6) (e 7) (e 8) I s u D) ?_ ?_
    · refine ⟨(by first | ((try simp (maxSteps := 1000000) only [go_sem, Int.reduceEq, Int.reduceLT, Int.reduceLE, Int.reduceToNat, Nat.reduceLT, Nat.reduceEqDiff, Nat.reduceAdd, Nat.reduceLeDiff, Nat.reduceSub, Nat.reduceMul, ↓reduceIte, reduceCtorEq, w_app_nl]); done) | ((try simp (maxSteps := 1000000) only [go_sem, Int.reduceEq, Int.reduceLT, Int.reduceLE, Int.reduceToNat, Nat.reduceLT, Nat.reduceEqDiff, Nat.reduceAdd, Nat.reduceLeDiff, Nat.reduceSub, Nat.reduceMul, ↓reduceIte, reduceCtorEq, w_app_nl]); rfl) | ((try simp (maxSteps := 1000000) (disch := omega) only [go_sem, Int.reduceEq, Int.reduceLT, Int.reduceLE, Int.reduceToNat, Nat.reduceLT, Nat.reduceEqDiff, Nat.reduceAdd, Nat.reduceLeDiff, Nat.reduceSub, Nat.reduceMul, ↓reduceIte, reduceCtorEq, w_app_nl, wrap_id, w_ite_ne, w_ite_lt]); rfl) | (simp (maxSteps := 1000000) (disch := omega) only [go_sem, Int.reduceEq, Int.reduceLT, Int.reduceLE, Int.reduceToNat, Nat.reduceLT, Nat.reduceEqDiff, Nat.reduceAdd, Nat.reduceLeDiff, Nat.reduceSub, Nat.reduceMul, ↓reduceIte, reduceCtorEq, w_app_nl, wrap_id, w_ite_ne, w_ite_lt]; done)), [], ⟨1, []⟩, ⟨0, []⟩, 0, 0, (by first | ((try simp (maxSteps := 1000000) only [go_sem, Int.reduceEq, Int.reduceLT, Int.reduceLE, Int.reduceToNat, Nat.reduceLT, Nat.reduceEqDiff, Nat.reduceAdd, Nat.reduceLeDiff, Nat.reduceSub, Nat.reduceMul, ↓reduceIte, reduceCtorEq, w_app_nl]); done) | ((try simp (maxSteps := 1000000) only [go_sem, Int.reduceEq, Int.reduceLT, Int.reduceLE, Int.reduceToNat, Nat.reduceLT, Nat.reduceEqDiff, Nat.reduceAdd, Nat.reduceLeDiff, Nat.reduceSub, Nat.reduceMul, ↓reduceIte, reduceCtorEq, w_app_nl]); rfl) | ((try simp (maxSteps := 1000000) (disch := omega) only [go_sem, Int.reduceEq, Int.reduceLT, Int.reduceLE, Int.reduceToNat, Nat.reduceLT, Nat.reduceEqDiff, Nat.reduceAdd, Nat.reduceLeDiff, Nat.reduceSub, Nat.reduceMul, ↓reduceIte, reduceCtorEq, w_app_nl, wrap_id, w_ite_ne, w_ite_lt]); rfl) | (simp (maxSteps := 1000000) (disch := omega) only [go_sem, Int.reduceEq, Int.reduceLT, Int.reduceLE, Int.reduceToNat, Nat.reduceLT, Nat.reduceEqDiff, Nat.reduceAdd, Nat.reduceLeDiff, Nat.reduceSub, Nat.reduceMul, ↓reduceIte, reduceCtorEq, w_app_nl, wrap_id, w_ite_ne, w_ite_lt]; done)), by simp, LnI.start, ?_⟩
      try simp (maxSteps := 500000) (disch := omega) only [go_sem, Int.reduceEq, Int.reduceLT, Int.reduceLE, Int.reduceToNat, Nat.reduceLT, Nat.reduceEqDiff, Nat.reduceAdd, Nat.reduceLeDiff, Nat.reduceSub, Nat.reduceMul, ↓reduceIte, reduceCtorEq, wrap_id, w_ite_ne, w_ite_lt, Nat.sub_zero, Nat.sub_self]
      exact ⟨⟨0, by try simp (maxSteps := 500000) (disch := omega) only [go_sem, Int.reduceEq, Int.reduceLT, Int.reduceLE, Int.reduceToNat, Nat.reduceLT, Nat.reduceEqDiff, Nat.reduceAdd, Nat.reduceLeDiff, Nat.reduceSub, Nat.reduceMul, ↓reduceIte, reduceCtorEq, wrap_id, w_ite_ne, w_ite_lt, Nat.sub_zero, Nat.sub_self]⟩, ⟨.nil, .inr ⟨rfl, rfl⟩, by try simp (maxSteps := 500000) (disch := omega) only [go_sem, Int.reduceEq, Int.reduceLT, Int.reduceLE, Int.reduceToNat, Nat.reduceLT, Nat.reduceEqDiff, Nat.reduceAdd, Nat.reduceLeDiff, Nat.reduceSub, Nat.reduceMul, ↓reduceIte, reduceCtorEq, wrap_id, w_ite_ne, w_ite_lt, Nat.sub_zero, Nat.sub_self]⟩, ⟨.nil, .inr ⟨rfl, rfl⟩, by try simp (maxSteps := 500000) (disch := omega) only [go_sem, Int.reduceEq, Int.reduceLT, Int.reduceLE, Int.reduceToNat, Nat.reduceLT, Nat.reduceEqDiff, Nat.reduceAdd, Nat.reduceLeDiff, Nat.reduceSub, Nat.reduceMul, ↓reduceIte, reduceCtorEq, wrap_id, w_ite_ne, w_ite_lt, Nat.sub_zero, Nat.sub_self]⟩, .nil, .nil, .nil, fun i _ => Oth.nil i, fun i _ => Oth.nil i, fun i _ => Oth.nil i, Dj.nil _, Dj.nil _, Dj.nil _⟩
    · rintro k fe ob m c hk hm ⟨h10, I, s, u, D, cf, h9, hIk, hI, hS⟩
      have hm' : 3 ≤ m := hm
      obtain ⟨X6, h6⟩ : ∃ X, fe 6 = X := ⟨_, rfl⟩
      obtain ⟨X7, h7⟩ : ∃ X, fe 7 = X := ⟨_, rfl⟩
      obtain ⟨X8, h8⟩ : ∃ X, fe 8 = X := ⟨_, rfl⟩
      simp (maxSteps := 1000000) only [go_sem, Int.reduceEq, Int.reduceLT, Int.reduceLE, Int.reduceToNat, Nat.reduceLT, Nat.reduceEqDiff, Nat.reduceAdd, Nat.reduceLeDiff, Nat.reduceSub, Nat.reduceMul, ↓reduceIte, reduceCtorEq, w_app_nl] at h10 h9 hS
      rw [h6, h7, h8] at hS
      have hS0 := hS
      obtain ⟨⟨at1, hd⟩, ⟨Y, hY, hs⟩, ⟨Z, hZ, hu⟩, hX6, hX7, hX8, o6, o7, o8, d67, d68, d78⟩ := hS
      simp only at hd hs hu
      have Yp := hY.pur1
      have Zp := hZ.pur1
      obtain ⟨Y1, Y2, Y3⟩ := hY.one
      obtain ⟨Z1, Z2, Z3⟩ := hZ.one
      try simp (maxSteps := 500000) (disch := omega) only [go_sem, Int.reduceEq, Int.reduceLT, Int.reduceLE, Int.reduceToNat, Nat.reduceLT, Nat.reduceEqDiff, Nat.reduceAdd, Nat.reduceLeDiff, Nat.reduceSub, Nat.reduceMul, ↓reduceIte, reduceCtorEq, wrap_id, w_ite_ne, w_ite_lt, Nat.sub_zero, Nat.sub_self, h10]
      refine gd_td rfl (fun g1 => ?_) (fun g1 => ?_)
      rotate_left
      · try simp (maxSteps := 500000) (disch := omega) only [go_sem, Int.reduceEq, Int.reduceLT, Int.reduceLE, Int.reduceToNat, Nat.reduceLT, Nat.reduceEqDiff, Nat.reduceAdd, Nat.reduceLeDiff, Nat.reduceSub, Nat.reduceMul, ↓reduceIte, reduceCtorEq, wrap_id, w_ite_ne, w_ite_lt, Nat.sub_zero, Nat.sub_self, h6, h7, h8]
        exact ⟨hm', I, s, u, D, cf, hI, hS0⟩
      try simp (maxSteps := 500000) (disch := omega) only [go_sem, Int.reduceEq, Int.reduceLT, Int.reduceLE, Int.reduceToNat, Nat.reduceLT, Nat.reduceEqDiff, Nat.reduceAdd, Nat.reduceLeDiff, Nat.reduceSub, Nat.reduceMul, ↓reduceIte, reduceCtorEq, wrap_id, w_ite_ne, w_ite_lt, Nat.sub_zero, Nat.sub_self, h10, hd, deckV]
      refine cond_d (fun g2 => ?_) (fun g2 => ?_)
      rotate_left
      · try simp (maxSteps := 500000) (disch := omega) only [go_sem, Int.reduceEq, Int.reduceLT, Int.reduceLE, Int.reduceToNat, Nat.reduceLT, Nat.reduceEqDiff, Nat.reduceAdd, Nat.reduceLeDiff, Nat.reduceSub, Nat.reduceMul, ↓reduceIte, reduceCtorEq, wrap_id, w_ite_ne, w_ite_lt, Nat.sub_zero, Nat.sub_self, h6, h7, h8]
        exact ⟨hm', I, s, u, D, cf, hI, hS0⟩
      have hk60 : k < 60 := by omega
      try simp (maxSteps := 500000) (disch := omega) only [go_sem, Int.reduceEq, Int.reduceLT, Int.reduceLE, Int.reduceToNat, Nat.reduceLT, Nat.reduceEqDiff, Nat.reduceAdd, Nat.reduceLeDiff, Nat.reduceSub, Nat.reduceMul, ↓reduceIte, reduceCtorEq, wrap_id, w_ite_ne, w_ite_lt, Nat.sub_zero, Nat.sub_self]
      refine call_hc (ok_mk_Deck_Next _ 0 0 ty_Deck true t at1 5 (by try simp (maxSteps := 500000) (disch := omega) only [go_sem, Int.reduceEq, Int.reduceLT, Int.reduceLE, Int.reduceToNat, Nat.reduceLT, Nat.reduceEqDiff, Nat.reduceAdd, Nat.reduceLeDiff, Nat.reduceSub, Nat.reduceMul, ↓reduceIte, reduceCtorEq, wrap_id, w_ite_ne, w_ite_lt, Nat.sub_zero, Nat.sub_self]; exact hd) (by omega) hlt) ?_
      have hx2 := deckR_bd t at1 5
      generalize deckR t at1 5 = dr at *
      obtain ⟨x2, at2⟩ := dr
      simp only at hx2
      have hx3 : x2 = 0 ∨ x2 = 1 ∨ x2 = 2 ∨ x2 = 3 ∨ x2 = 4 := by omega
      rcases hx3 with rfl | rfl | rfl | rfl | rfl
      · try simp (maxSteps := 500000) (disch := omega) only [go_sem, Int.reduceEq, Int.reduceLT, Int.reduceLE, Int.reduceToNat, Nat.reduceLT, Nat.reduceEqDiff, Nat.reduceAdd, Nat.reduceLeDiff, Nat.reduceSub, Nat.reduceMul, ↓reduceIte, reduceCtorEq, wrap_id, w_ite_ne, w_ite_lt, Nat.sub_zero, Nat.sub_self]
        refine (hc_flow_Order _ 0 0 t at2 1 hlt (by simp only; omega) (by try simp (maxSteps := 500000) (disch := omega) only [go_sem, Int.reduceEq, Int.reduceLT, Int.reduceLE, Int.reduceToNat, Nat.reduceLT, Nat.reduceEqDiff, Nat.reduceAdd, Nat.reduceLeDiff, Nat.reduceSub, Nat.reduceMul, ↓reduceIte, reduceCtorEq, wrap_id, w_ite_ne, w_ite_lt, Nat.sub_zero, Nat.sub_self])).mono ?_
        intro r τ hR
        obtain ⟨⟨kk, ii, vv, rfl⟩, hn, ⟨at3, hd3⟩, hf⟩ := DeckR.use hR (by simp only; omega)
        obtain ⟨ob3, m3, c3⟩ := τ
        simp only at hn hd3
        have hn := hn.symm
        subst hn
        have f1 := hf 1 (by simp only; omega) (by omega)
        have f2 := hf 2 (by simp only; omega) (by omega)
        simp only [upd_ne _ _ _ _ (show (1 : Nat) ≠ 0 by omega), hs] at f1
        simp only [upd_ne _ _ _ _ (show (2 : Nat) ≠ 0 by omega), hu] at f2
        have hfr : ∀ i, i < m → 3 ≤ i → ob3 i = ob i := fun i hi h3 => by
          have := hf i hi (by omega)
          simp only [upd_ne _ _ _ _ (show i ≠ 0 by omega)] at this
          exact this
        clear hf hR
        try simp (maxSteps := 500000) (disch := omega) only [go_sem, Int.reduceEq, Int.reduceLT, Int.reduceLE, Int.reduceToNat, Nat.reduceLT, Nat.reduceEqDiff, Nat.reduceAdd, Nat.reduceLeDiff, Nat.reduceSub, Nat.reduceMul, ↓reduceIte, reduceCtorEq, wrap_id, w_ite_ne, w_ite_lt, Nat.sub_zero, Nat.sub_self, odv, f1]
        have hc1 := ok_orders_Issue s kk ii vv (by have := (sdOk_l hI.ok.2.1).2.2.1; omega)
        rcases hT : issS s kk ii vv with ⟨s', o', er⟩
        rw [hT] at hc1
        simp only at hc1
        refine call_pc (pc_nl hc1 (.cons (hY.nlr _) (NlRs.refl _))) (by simp [Yp, go_sem]) ?_
        try simp (maxSteps := 500000) (disch := omega) only [go_sem, Int.reduceEq, Int.reduceLT, Int.reduceLE, Int.reduceToNat, Nat.reduceLT, Nat.reduceEqDiff, Nat.reduceAdd, Nat.reduceLeDiff, Nat.reduceSub, Nat.reduceMul, ↓reduceIte, reduceCtorEq, wrap_id, w_ite_ne, w_ite_lt, Nat.sub_zero, Nat.sub_self, sdv, odv, f1]
        refine cond_d (fun he => ?_) (fun he => ?_)
        · subst he
          have hLI := hI.issue (by omega) hT
          try simp (maxSteps := 500000) (disch := omega) only [go_sem, Int.reduceEq, Int.reduceLT, Int.reduceLE, Int.reduceToNat, Nat.reduceLT, Nat.reduceEqDiff, Nat.reduceAdd, Nat.reduceLeDiff, Nat.reduceSub, Nat.reduceMul, ↓reduceIte, reduceCtorEq, wrap_id, w_ite_ne, w_ite_lt, Nat.sub_zero, Nat.sub_self, h6, h7, h8]
          have sok : ∀ {L : List AV} {X : AV} {τ : St}, SlR 4 ty_el_Order ⟨ob, m, c⟩ L X → (∀ i, i < 3 → Oth X i) → m ≤ τ.n → (∀ i, i < m → 3 ≤ i → τ.ob i = ob3 i) → SlR 4 ty_el_Order τ L X := fun h o hn hf => h.mv3 o hn fun i hi h3 => (hf i hi h3).trans (hfr i hi h3)
          refine app_slr (sok hX6 o6 (by simp only; omega) fun i hi h3 => by try simp (maxSteps := 500000) (disch := omega) only [go_sem, Int.reduceEq, Int.reduceLT, Int.reduceLE, Int.reduceToNat, Nat.reduceLT, Nat.reduceEqDiff, Nat.reduceAdd, Nat.reduceLeDiff, Nat.reduceSub, Nat.reduceMul, ↓reduceIte, reduceCtorEq, wrap_id, w_ite_ne, w_ite_lt, Nat.sub_zero, Nat.sub_self]) (by rw [ods_length]; omega) (by rw [ods_length]; omega) fun A τ1 hA hK1 => ?_
          have a1 := hK1.2.1 (m + 1) (by simp only; omega) (hX6.oth (by simp only; omega))
          have a2 := hK1.2.1 (m + 1 + 1) (by simp only; omega) (hX6.oth (by simp only; omega))
          have b0 := hK1.2.1 0 (by simp only; omega) (o6 0 (by omega))
          have b1 := hK1.2.1 1 (by simp only; omega) (o6 1 (by omega))
          have b2 := hK1.2.1 2 (by simp only; omega) (o6 2 (by omega))
          try simp (maxSteps := 500000) (disch := omega) only [go_sem, Int.reduceEq, Int.reduceLT, Int.reduceLE, Int.reduceToNat, Nat.reduceLT, Nat.reduceEqDiff, Nat.reduceAdd, Nat.reduceLeDiff, Nat.reduceSub, Nat.reduceMul, ↓reduceIte, reduceCtorEq, wrap_id, w_ite_ne, w_ite_lt, Nat.sub_zero, Nat.sub_self] at a1
          try simp (maxSteps := 500000) (disch := omega) only [go_sem, Int.reduceEq, Int.reduceLT, Int.reduceLE, Int.reduceToNat, Nat.reduceLT, Nat.reduceEqDiff, Nat.reduceAdd, Nat.reduceLeDiff, Nat.reduceSub, Nat.reduceMul, ↓reduceIte, reduceCtorEq, wrap_id, w_ite_ne, w_ite_lt, Nat.sub_zero, Nat.sub_self] at a2
          try simp (maxSteps := 500000) (disch := omega) only [go_sem, Int.reduceEq, Int.reduceLT, Int.reduceLE, Int.reduceToNat, Nat.reduceLT, Nat.reduceEqDiff, Nat.reduceAdd, Nat.reduceLeDiff, Nat.reduceSub, Nat.reduceMul, ↓reduceIte, reduceCtorEq, wrap_id, w_ite_ne, w_ite_lt, Nat.sub_zero, Nat.sub_self] at b0
          try simp (maxSteps := 500000) (disch := omega) only [go_sem, Int.reduceEq, Int.reduceLT, Int.reduceLE, Int.reduceToNat, Nat.reduceLT, Nat.reduceEqDiff, Nat.reduceAdd, Nat.reduceLeDiff, Nat.reduceSub, Nat.reduceMul, ↓reduceIte, reduceCtorEq, wrap_id, w_ite_ne, w_ite_lt, Nat.sub_zero, Nat.sub_self] at b1
          try simp (maxSteps := 500000) (disch := omega) only [go_sem, Int.reduceEq, Int.reduceLT, Int.reduceLE, Int.reduceToNat, Nat.reduceLT, Nat.reduceEqDiff, Nat.reduceAdd, Nat.reduceLeDiff, Nat.reduceSub, Nat.reduceMul, ↓reduceIte, reduceCtorEq, wrap_id, w_ite_ne, w_ite_lt, Nat.sub_zero, Nat.sub_self] at b2
          try simp (maxSteps := 500000) (disch := omega) only [go_sem, Int.reduceEq, Int.reduceLT, Int.reduceLE, Int.reduceToNat, Nat.reduceLT, Nat.reduceEqDiff, Nat.reduceAdd, Nat.reduceLeDiff, Nat.reduceSub, Nat.reduceMul, ↓reduceIte, reduceCtorEq, wrap_id, w_ite_ne, w_ite_lt, Nat.sub_zero, Nat.sub_self, a1, a2, h7]
          have hX7' := (sok hX7 o7 (τ := ⟨_, m + 1 + 1 + 1, c3 + 1 + 1 + 1⟩) (by simp only; omega) fun i hi h3 => by try simp (maxSteps := 500000) (disch := omega) only [go_sem, Int.reduceEq, Int.reduceLT, Int.reduceLE, Int.reduceToNat, Nat.reduceLT, Nat.reduceEqDiff, Nat.reduceAdd, Nat.reduceLeDiff, Nat.reduceSub, Nat.reduceMul, ↓reduceIte, reduceCtorEq, wrap_id, w_ite_ne, w_ite_lt, Nat.sub_zero, Nat.sub_self]).dj d67 hK1
          have hX8' := (sok hX8 o8 (τ := ⟨_, m + 1 + 1 + 1, c3 + 1 + 1 + 1⟩) (by simp only; omega) fun i hi h3 => by try simp (maxSteps := 500000) (disch := omega) only [go_sem, Int.reduceEq, Int.reduceLT, Int.reduceLE, Int.reduceToNat, Nat.reduceLT, Nat.reduceEqDiff, Nat.reduceAdd, Nat.reduceLeDiff, Nat.reduceSub, Nat.reduceMul, ↓reduceIte, reduceCtorEq, wrap_id, w_ite_ne, w_ite_lt, Nat.sub_zero, Nat.sub_self]).dj d68 hK1
          have dA7 := d67.kp (sok hX7 o7 (τ := ⟨_, m + 1 + 1 + 1, c3 + 1 + 1 + 1⟩) (by simp only; omega) fun i hi h3 => by try simp (maxSteps := 500000) (disch := omega) only [go_sem, Int.reduceEq, Int.reduceLT, Int.reduceLE, Int.reduceToNat, Nat.reduceLT, Nat.reduceEqDiff, Nat.reduceAdd, Nat.reduceLeDiff, Nat.reduceSub, Nat.reduceMul, ↓reduceIte, reduceCtorEq, wrap_id, w_ite_ne, w_ite_lt, Nat.sub_zero, Nat.sub_self]) hK1
          have dA8 := d68.kp (sok hX8 o8 (τ := ⟨_, m + 1 + 1 + 1, c3 + 1 + 1 + 1⟩) (by simp only; omega) fun i hi h3 => by try simp (maxSteps := 500000) (disch := omega) only [go_sem, Int.reduceEq, Int.reduceLT, Int.reduceLE, Int.reduceToNat, Nat.reduceLT, Nat.reduceEqDiff, Nat.reduceAdd, Nat.reduceLeDiff, Nat.reduceSub, Nat.reduceMul, ↓reduceIte, reduceCtorEq, wrap_id, w_ite_ne, w_ite_lt, Nat.sub_zero, Nat.sub_self]) hK1
          have oA : ∀ i, i < 3 → Oth A i := fun i hi => hK1.2.2 i (by simp only; omega) (o6 i hi)
          have hn1 := hK1.1
          simp only at hn1
          clear hK1
          refine app_slr hX7' (by rw [ods_length]; omega) (by rw [ods_length]; omega) fun B τ2 hB hK2 => ?_
          have y1 := hK2.2.1 (m + 1) (by omega) (hX7.oth (by simp only; omega))
          have y2 := hK2.2.1 (m + 1 + 1) (by omega) (hX7.oth (by simp only; omega))
          have x0 := hK2.2.1 0 (by omega) (o7 0 (by omega))
          have x1 := hK2.2.1 1 (by omega) (o7 1 (by omega))
          have x2 := hK2.2.1 2 (by omega) (o7 2 (by omega))
          rw [a1] at y1
          rw [a2] at y2
          rw [b0] at x0
          rw [b1, f1] at x1
          rw [b2, f2] at x2
          have hX8q := hX8'.dj d78 hK2
          have hAq := hA.dj dA7.symm hK2
          have dB8 := d78.kp hX8' hK2
          have dAB := (dA7.symm.kp hA hK2).symm
          have oB : ∀ i, i < 3 → Oth B i := fun i hi => hK2.2.2 i (by omega) (o7 i hi)
          have hn2 := hK2.1
          clear hK2 hX7' hX8'
          obtain ⟨obw, mw, cw⟩ := τ2
          simp only at y1 y2 x0 x1 x2 hn2
          have es : ods I ++ [AV.agg [.int .i64 o'.n, .int .i64 o'.k, .int .i64 o'.i, .int .i64 o'.v]] = ods (I ++ [o']) := by simp [ods, odv]
          rw [es] at hAq hB
          try simp (maxSteps := 500000) (disch := omega) only [go_sem, Int.reduceEq, Int.reduceLT, Int.reduceLE, Int.reduceToNat, Nat.reduceLT, Nat.reduceEqDiff, Nat.reduceAdd, Nat.reduceLeDiff, Nat.reduceSub, Nat.reduceMul, ↓reduceIte, reduceCtorEq, wrap_id, w_ite_ne, w_ite_lt, Nat.sub_zero, Nat.sub_self, a1, a2, y1, y2, x1, h6, h7, h8]
          refine lenC_st (fun σ' => LnS t 29 31 σ' A B X8 (I ++ [o']) s' u D ∧ 3 ≤ σ'.n) ?_ ?_
          · refine ⟨⟨⟨at3, by try simp (maxSteps := 500000) (disch := omega) only [go_sem, Int.reduceEq, Int.reduceLT, Int.reduceLE, Int.reduceToNat, Nat.reduceLT, Nat.reduceEqDiff, Nat.reduceAdd, Nat.reduceLeDiff, Nat.reduceSub, Nat.reduceMul, ↓reduceIte, reduceCtorEq, wrap_id, w_ite_ne, w_ite_lt, Nat.sub_zero, Nat.sub_self]; rw [x0]; exact hd3⟩, ⟨_, .inl rfl, by try simp (maxSteps := 500000) (disch := omega) only [go_sem, Int.reduceEq, Int.reduceLT, Int.reduceLE, Int.reduceToNat, Nat.reduceLT, Nat.reduceEqDiff, Nat.reduceAdd, Nat.reduceLeDiff, Nat.reduceSub, Nat.reduceMul, ↓reduceIte, reduceCtorEq, wrap_id, w_ite_ne, w_ite_lt, Nat.sub_zero, Nat.sub_self]⟩, ⟨Z, hZ, by try simp (maxSteps := 500000) (disch := omega) only [go_sem, Int.reduceEq, Int.reduceLT, Int.reduceLE, Int.reduceToNat, Nat.reduceLT, Nat.reduceEqDiff, Nat.reduceAdd, Nat.reduceLeDiff, Nat.reduceSub, Nat.reduceMul, ↓reduceIte, reduceCtorEq, wrap_id, w_ite_ne, w_ite_lt, Nat.sub_zero, Nat.sub_self]; exact x2⟩, hAq.mv3 oA (by simp only; omega) ?_, hB.mv3 oB (by simp only; omega) ?_, ?_, oA, oB, o8, dAB, dA8, dB8⟩, by simp only; omega⟩
            · intro i hi h3
              try simp (maxSteps := 500000) (disch := omega) only [go_sem, Int.reduceEq, Int.reduceLT, Int.reduceLE, Int.reduceToNat, Nat.reduceLT, Nat.reduceEqDiff, Nat.reduceAdd, Nat.reduceLeDiff, Nat.reduceSub, Nat.reduceMul, ↓reduceIte, reduceCtorEq, wrap_id, w_ite_ne, w_ite_lt, Nat.sub_zero, Nat.sub_self]
            · intro i hi h3
              try simp (maxSteps := 500000) (disch := omega) only [go_sem, Int.reduceEq, Int.reduceLT, Int.reduceLE, Int.reduceToNat, Nat.reduceLT, Nat.reduceEqDiff, Nat.reduceAdd, Nat.reduceLeDiff, Nat.reduceSub, Nat.reduceMul, ↓reduceIte, reduceCtorEq, wrap_id, w_ite_ne, w_ite_lt, Nat.sub_zero, Nat.sub_self]
            · rw [List.take_append_of_le_length hI.dl]
              refine hX8q.mv3 o8 (by simp only; omega) ?_
              intro i hi h3
              try simp (maxSteps := 500000) (disch := omega) only [go_sem, Int.reduceEq, Int.reduceLT, Int.reduceLE, Int.reduceToNat, Nat.reduceLT, Nat.reduceEqDiff, Nat.reduceAdd, Nat.reduceLeDiff, Nat.reduceSub, Nat.reduceMul, ↓reduceIte, reduceCtorEq, wrap_id, w_ite_ne, w_ite_lt, Nat.sub_zero, Nat.sub_self]
          · rintro ⟨obz, mz, cz⟩ ⟨hLS, hmz⟩
            have hLS0 := hLS
            obtain ⟨⟨atz, hdz⟩, ⟨Yz, hYz, hsz⟩, ⟨Zz, hZz, huz⟩, hz6, hz7, hz8, _⟩ := hLS
            simp only at hdz hsz huz hmz
            have hDl := hLI.dl
            have hIl := hLI.len
            have hl8 : (ods ((I ++ [o']).take D)).length = D := by rw [ods_length, List.length_take]; exact Nat.min_eq_left hDl
            refine (ER.of_slr hz8).len ?_
            try simp (maxSteps := 500000) (disch := omega) only [go_sem, Int.reduceEq, Int.reduceLT, Int.reduceLE, Int.reduceToNat, Nat.reduceLT, Nat.reduceEqDiff, Nat.reduceAdd, Nat.reduceLeDiff, Nat.reduceSub, Nat.reduceMul, ↓reduceIte, reduceCtorEq, wrap_id, w_ite_ne, w_ite_lt, Nat.sub_zero, Nat.sub_self, hl8, h6, h7, h8]
            refine (ER.of_slr hz6).len ?_
            try simp (maxSteps := 500000) (disch := omega) only [go_sem, Int.reduceEq, Int.reduceLT, Int.reduceLE, Int.reduceToNat, Nat.reduceLT, Nat.reduceEqDiff, Nat.reduceAdd, Nat.reduceLeDiff, Nat.reduceSub, Nat.reduceMul, ↓reduceIte, reduceCtorEq, wrap_id, w_ite_ne, w_ite_lt, Nat.sub_zero, Nat.sub_self, ods_length, h6, h7, h8]
            refine gd_fd rfl (fun h => absurd h (by omega)) (fun _ => ?_)
            try simp (maxSteps := 500000) (disch := omega) only [go_sem, Int.reduceEq, Int.reduceLT, Int.reduceLE, Int.reduceToNat, Nat.reduceLT, Nat.reduceEqDiff, Nat.reduceAdd, Nat.reduceLeDiff, Nat.reduceSub, Nat.reduceMul, ↓reduceIte, reduceCtorEq, wrap_id, w_ite_ne, w_ite_lt, Nat.sub_zero, Nat.sub_self, h6, h7, h8]
            refine (ER.of_slr hz8).len ?_
            try simp (maxSteps := 500000) (disch := omega) only [go_sem, Int.reduceEq, Int.reduceLT, Int.reduceLE, Int.reduceToNat, Nat.reduceLT, Nat.reduceEqDiff, Nat.reduceAdd, Nat.reduceLeDiff, Nat.reduceSub, Nat.reduceMul, ↓reduceIte, reduceCtorEq, wrap_id, w_ite_ne, w_ite_lt, Nat.sub_zero, Nat.sub_self, hl8, h6, h7, h8]
            refine (ER.of_slr hz6).take rfl (by rw [ods_length]; omega) fun E hE hoE => ?_
            try simp (maxSteps := 500000) (disch := omega) only [go_sem, Int.reduceEq, Int.reduceLT, Int.reduceLE, Int.reduceToNat, Nat.reduceLT, Nat.reduceEqDiff, Nat.reduceAdd, Nat.reduceLeDiff, Nat.reduceSub, Nat.reduceMul, ↓reduceIte, reduceCtorEq, wrap_id, w_ite_ne, w_ite_lt, Nat.sub_zero, Nat.sub_self, h6, h7, h8]
            refine call_lent (ok_ref27_SameOrders ((I ++ [o']).take D) ((I ++ [o']).take D) (by rw [List.length_take]; omega)) (.cons ((ER.of_slr hz8).pub' (ods_pur _) (ods_ok _)) (.cons ?_ .nil)) rfl ?_
            · have := hE.pub' (fun x hx => ods_pur _ x (List.mem_of_mem_take hx)) (fun x hx => ods_ok _ x (List.mem_of_mem_take hx))
              rw [show (ods ((I ++ [o']))).take D = ods (((I ++ [o'])).take D) by simp [ods]] at this
              exact this
            try simp (maxSteps := 500000) (disch := omega) only [go_sem, Int.reduceEq, Int.reduceLT, Int.reduceLE, Int.reduceToNat, Nat.reduceLT, Nat.reduceEqDiff, Nat.reduceAdd, Nat.reduceLeDiff, Nat.reduceSub, Nat.reduceMul, ↓reduceIte, reduceCtorEq, wrap_id, w_ite_ne, w_ite_lt, Nat.sub_zero, Nat.sub_self, decide_true, huz, h6, h7, h8]
            refine (ER.of_slr hz8).len ?_
            try simp (maxSteps := 500000) (disch := omega) only [go_sem, Int.reduceEq, Int.reduceLT, Int.reduceLE, Int.reduceToNat, Nat.reduceLT, Nat.reduceEqDiff, Nat.reduceAdd, Nat.reduceLeDiff, Nat.reduceSub, Nat.reduceMul, ↓reduceIte, reduceCtorEq, wrap_id, w_ite_ne, w_ite_lt, Nat.sub_zero, Nat.sub_self, hl8, hLI.ud, decide_true, h10]
            refine up_nextG mz hk60 (by omega) ⟨(by first | ((try simp (maxSteps := 1000000) only [go_sem, Int.reduceEq, Int.reduceLT, Int.reduceLE, Int.reduceToNat, Nat.reduceLT, Nat.reduceEqDiff, Nat.reduceAdd, Nat.reduceLeDiff, Nat.reduceSub, Nat.reduceMul, ↓reduceIte, reduceCtorEq, w_app_nl]); done) | ((try simp (maxSteps := 1000000) only [go_sem, Int.reduceEq, Int.reduceLT, Int.reduceLE, Int.reduceToNat, Nat.reduceLT, Nat.reduceEqDiff, Nat.reduceAdd, Nat.reduceLeDiff, Nat.reduceSub, Nat.reduceMul, ↓reduceIte, reduceCtorEq, w_app_nl]); rfl) | ((try simp (maxSteps := 1000000) (disch := omega) only [go_sem, Int.reduceEq, Int.reduceLT, Int.reduceLE, Int.reduceToNat, Nat.reduceLT, Nat.reduceEqDiff, Nat.reduceAdd, Nat.reduceLeDiff, Nat.reduceSub, Nat.reduceMul, ↓reduceIte, reduceCtorEq, w_app_nl, wrap_id, w_ite_ne, w_ite_lt]); rfl) | (simp (maxSteps := 1000000) (disch := omega) only [go_sem, Int.reduceEq, Int.reduceLT, Int.reduceLE, Int.reduceToNat, Nat.reduceLT, Nat.reduceEqDiff, Nat.reduceAdd, Nat.reduceLeDiff, Nat.reduceSub, Nat.reduceMul, ↓reduceIte, reduceCtorEq, w_app_nl, wrap_id, w_ite_ne, w_ite_lt]; done)), (I ++ [o']), s', u, D, cf, by try simp (maxSteps := 500000) (disch := omega) only [go_sem, Int.reduceEq, Int.reduceLT, Int.reduceLE, Int.reduceToNat, Nat.reduceLT, Nat.reduceEqDiff, Nat.reduceAdd, Nat.reduceLeDiff, Nat.reduceSub, Nat.reduceMul, ↓reduceIte, reduceCtorEq, wrap_id, w_ite_ne, w_ite_lt, Nat.sub_zero, Nat.sub_self, h9], by rw [List.length_append]; simp only [List.length_cons, List.length_nil]; omega, hLI, ?_⟩
            try simp (maxSteps := 500000) (disch := omega) only [go_sem, Int.reduceEq, Int.reduceLT, Int.reduceLE, Int.reduceToNat, Nat.reduceLT, Nat.reduceEqDiff, Nat.reduceAdd, Nat.reduceLeDiff, Nat.reduceSub, Nat.reduceMul, ↓reduceIte, reduceCtorEq, wrap_id, w_ite_ne, w_ite_lt, Nat.sub_zero, Nat.sub_self, h6, h7, h8]
            exact hLS0.trunc hmz
            
        · have hLI := hI
          try simp (maxSteps := 500000) (disch := omega) only [go_sem, Int.reduceEq, Int.reduceLT, Int.reduceLE, Int.reduceToNat, Nat.reduceLT, Nat.reduceEqDiff, Nat.reduceAdd, Nat.reduceLeDiff, Nat.reduceSub, Nat.reduceMul, ↓reduceIte, reduceCtorEq, wrap_id, w_ite_ne, w_ite_lt, Nat.sub_zero, Nat.sub_self, h6, h7, h8]
          refine lenC_st (fun σ' => LnS t 29 31 σ' X6 X7 X8 I s u D ∧ 3 ≤ σ'.n) ?_ ?_
          · refine ⟨⟨⟨at3, by try simp (maxSteps := 500000) (disch := omega) only [go_sem, Int.reduceEq, Int.reduceLT, Int.reduceLE, Int.reduceToNat, Nat.reduceLT, Nat.reduceEqDiff, Nat.reduceAdd, Nat.reduceLeDiff, Nat.reduceSub, Nat.reduceMul, ↓reduceIte, reduceCtorEq, wrap_id, w_ite_ne, w_ite_lt, Nat.sub_zero, Nat.sub_self, hd3]⟩, ⟨Y, hY, by try simp (maxSteps := 500000) (disch := omega) only [go_sem, Int.reduceEq, Int.reduceLT, Int.reduceLE, Int.reduceToNat, Nat.reduceLT, Nat.reduceEqDiff, Nat.reduceAdd, Nat.reduceLeDiff, Nat.reduceSub, Nat.reduceMul, ↓reduceIte, reduceCtorEq, wrap_id, w_ite_ne, w_ite_lt, Nat.sub_zero, Nat.sub_self, f1]⟩, ⟨Z, hZ, by try simp (maxSteps := 500000) (disch := omega) only [go_sem, Int.reduceEq, Int.reduceLT, Int.reduceLE, Int.reduceToNat, Nat.reduceLT, Nat.reduceEqDiff, Nat.reduceAdd, Nat.reduceLeDiff, Nat.reduceSub, Nat.reduceMul, ↓reduceIte, reduceCtorEq, wrap_id, w_ite_ne, w_ite_lt, Nat.sub_zero, Nat.sub_self, f2]⟩, hX6.mv3 o6 (by simp only; omega) ?_, hX7.mv3 o7 (by simp only; omega) ?_, hX8.mv3 o8 (by simp only; omega) ?_, o6, o7, o8, d67, d68, d78⟩, by simp only; omega⟩
            all_goals
              intro i hi h3
              simp only at hi
              try simp (maxSteps := 500000) (disch := omega) only [go_sem, Int.reduceEq, Int.reduceLT, Int.reduceLE, Int.reduceToNat, Nat.reduceLT, Nat.reduceEqDiff, Nat.reduceAdd, Nat.reduceLeDiff, Nat.reduceSub, Nat.reduceMul, ↓reduceIte, reduceCtorEq, wrap_id, w_ite_ne, w_ite_lt, Nat.sub_zero, Nat.sub_self]
              exact hfr i hi h3
          · rintro ⟨obz, mz, cz⟩ ⟨hLS, hmz⟩
            have hLS0 := hLS
            obtain ⟨⟨atz, hdz⟩, ⟨Yz, hYz, hsz⟩, ⟨Zz, hZz, huz⟩, hz6, hz7, hz8, _⟩ := hLS
            simp only at hdz hsz huz hmz
            have hDl := hLI.dl
            have hIl := hLI.len
            have hl8 : (ods (I.take D)).length = D := by simp [ods]; omega
            refine (ER.of_slr hz8).len ?_
            try simp (maxSteps := 500000) (disch := omega) only [go_sem, Int.reduceEq, Int.reduceLT, Int.reduceLE, Int.reduceToNat, Nat.reduceLT, Nat.reduceEqDiff, Nat.reduceAdd, Nat.reduceLeDiff, Nat.reduceSub, Nat.reduceMul, ↓reduceIte, reduceCtorEq, wrap_id, w_ite_ne, w_ite_lt, Nat.sub_zero, Nat.sub_self, hl8, h6, h7, h8]
            refine (ER.of_slr hz6).len ?_
            try simp (maxSteps := 500000) (disch := omega) only [go_sem, Int.reduceEq, Int.reduceLT, Int.reduceLE, Int.reduceToNat, Nat.reduceLT, Nat.reduceEqDiff, Nat.reduceAdd, Nat.reduceLeDiff, Nat.reduceSub, Nat.reduceMul, ↓reduceIte, reduceCtorEq, wrap_id, w_ite_ne, w_ite_lt, Nat.sub_zero, Nat.sub_self, ods_length, h6, h7, h8]
            refine gd_fd rfl (fun h => absurd h (by omega)) (fun _ => ?_)
            try simp (maxSteps := 500000) (disch := omega) only [go_sem, Int.reduceEq, Int.reduceLT, Int.reduceLE, Int.reduceToNat, Nat.reduceLT, Nat.reduceEqDiff, Nat.reduceAdd, Nat.reduceLeDiff, Nat.reduceSub, Nat.reduceMul, ↓reduceIte, reduceCtorEq, wrap_id, w_ite_ne, w_ite_lt, Nat.sub_zero, Nat.sub_self, h6, h7, h8]
            refine (ER.of_slr hz8).len ?_
            try simp (maxSteps := 500000) (disch := omega) only [go_sem, Int.reduceEq, Int.reduceLT, Int.reduceLE, Int.reduceToNat, Nat.reduceLT, Nat.reduceEqDiff, Nat.reduceAdd, Nat.reduceLeDiff, Nat.reduceSub, Nat.reduceMul, ↓reduceIte, reduceCtorEq, wrap_id, w_ite_ne, w_ite_lt, Nat.sub_zero, Nat.sub_self, hl8, h6, h7, h8]
            refine (ER.of_slr hz6).take rfl (by rw [ods_length]; omega) fun E hE hoE => ?_
            try simp (maxSteps := 500000) (disch := omega) only [go_sem, Int.reduceEq, Int.reduceLT, Int.reduceLE, Int.reduceToNat, Nat.reduceLT, Nat.reduceEqDiff, Nat.reduceAdd, Nat.reduceLeDiff, Nat.reduceSub, Nat.reduceMul, ↓reduceIte, reduceCtorEq, wrap_id, w_ite_ne, w_ite_lt, Nat.sub_zero, Nat.sub_self, h6, h7, h8]
            refine call_lent (ok_ref27_SameOrders (I.take D) (I.take D) (by simp; omega)) (.cons ((ER.of_slr hz8).pub' (ods_pur _) (ods_ok _)) (.cons ?_ .nil)) rfl ?_
            · have := hE.pub' (fun x hx => ods_pur I x (List.mem_of_mem_take hx)) (fun x hx => ods_ok I x (List.mem_of_mem_take hx))
              rw [show (ods I).take D = ods (I.take D) by simp [ods]] at this
              exact this
            try simp (maxSteps := 500000) (disch := omega) only [go_sem, Int.reduceEq, Int.reduceLT, Int.reduceLE, Int.reduceToNat, Nat.reduceLT, Nat.reduceEqDiff, Nat.reduceAdd, Nat.reduceLeDiff, Nat.reduceSub, Nat.reduceMul, ↓reduceIte, reduceCtorEq, wrap_id, w_ite_ne, w_ite_lt, Nat.sub_zero, Nat.sub_self, decide_true, huz, h6, h7, h8]
            refine (ER.of_slr hz8).len ?_
            try simp (maxSteps := 500000) (disch := omega) only [go_sem, Int.reduceEq, Int.reduceLT, Int.reduceLE, Int.reduceToNat, Nat.reduceLT, Nat.reduceEqDiff, Nat.reduceAdd, Nat.reduceLeDiff, Nat.reduceSub, Nat.reduceMul, ↓reduceIte, reduceCtorEq, wrap_id, w_ite_ne, w_ite_lt, Nat.sub_zero, Nat.sub_self, hl8, hLI.ud, decide_true, h10]
            refine up_nextG mz hk60 (by omega) ⟨(by first | ((try simp (maxSteps := 1000000) only [go_sem, Int.reduceEq, Int.reduceLT, Int.reduceLE, Int.reduceToNat, Nat.reduceLT, Nat.reduceEqDiff, Nat.reduceAdd, Nat.reduceLeDiff, Nat.reduceSub, Nat.reduceMul, ↓reduceIte, reduceCtorEq, w_app_nl]); done) | ((try simp (maxSteps := 1000000) only [go_sem, Int.reduceEq, Int.reduceLT, Int.reduceLE, Int.reduceToNat, Nat.reduceLT, Nat.reduceEqDiff, Nat.reduceAdd, Nat.reduceLeDiff, Nat.reduceSub, Nat.reduceMul, ↓reduceIte, reduceCtorEq, w_app_nl]); rfl) | ((try simp (maxSteps := 1000000) (disch := omega) only [go_sem, Int.reduceEq, Int.reduceLT, Int.reduceLE, Int.reduceToNat, Nat.reduceLT, Nat.reduceEqDiff, Nat.reduceAdd, Nat.reduceLeDiff, Nat.reduceSub, Nat.reduceMul, ↓reduceIte, reduceCtorEq, w_app_nl, wrap_id, w_ite_ne, w_ite_lt]); rfl) | (simp (maxSteps := 1000000) (disch := omega) only [go_sem, Int.reduceEq, Int.reduceLT, Int.reduceLE, Int.reduceToNat, Nat.reduceLT, Nat.reduceEqDiff, Nat.reduceAdd, Nat.reduceLeDiff, Nat.reduceSub, Nat.reduceMul, ↓reduceIte, reduceCtorEq, w_app_nl, wrap_id, w_ite_ne, w_ite_lt]; done)), I, s, u, D, cf, by try simp (maxSteps := 500000) (disch := omega) only [go_sem, Int.reduceEq, Int.reduceLT, Int.reduceLE, Int.reduceToNat, Nat.reduceLT, Nat.reduceEqDiff, Nat.reduceAdd, Nat.reduceLeDiff, Nat.reduceSub, Nat.reduceMul, ↓reduceIte, reduceCtorEq, wrap_id, w_ite_ne, w_ite_lt, Nat.sub_zero, Nat.sub_self, h9], by omega, hLI, ?_⟩
            try simp (maxSteps := 500000) (disch := omega) only [go_sem, Int.reduceEq, Int.reduceLT, Int.reduceLE, Int.reduceToNat, Nat.reduceLT, Nat.reduceEqDiff, Nat.reduceAdd, Nat.reduceLeDiff, Nat.reduceSub, Nat.reduceMul, ↓reduceIte, reduceCtorEq, wrap_id, w_ite_ne, w_ite_lt, Nat.sub_zero, Nat.sub_self, h6, h7, h8]
            exact hLS0.trunc hmz
            
      · try simp (maxSteps := 500000) (disch := omega) only [go_sem, Int.reduceEq, Int.reduceLT, Int.reduceLE, Int.reduceToNat, Nat.reduceLT, Nat.reduceEqDiff, Nat.reduceAdd, Nat.reduceLeDiff, Nat.reduceSub, Nat.reduceMul, ↓reduceIte, reduceCtorEq, wrap_id, w_ite_ne, w_ite_lt, Nat.sub_zero, Nat.sub_self]
        refine (hc_flow_Order _ 0 0 t at2 1 hlt (by simp only; omega) (by try simp (maxSteps := 500000) (disch := omega) only [go_sem, Int.reduceEq, Int.reduceLT, Int.reduceLE, Int.reduceToNat, Nat.reduceLT, Nat.reduceEqDiff, Nat.reduceAdd, Nat.reduceLeDiff, Nat.reduceSub, Nat.reduceMul, ↓reduceIte, reduceCtorEq, wrap_id, w_ite_ne, w_ite_lt, Nat.sub_zero, Nat.sub_self])).mono ?_
        intro r τ hR
        obtain ⟨⟨kk, ii, vv, rfl⟩, hn, ⟨at3, hd3⟩, hf⟩ := DeckR.use hR (by simp only; omega)
        obtain ⟨ob3, m3, c3⟩ := τ
        simp only at hn hd3
        have hn := hn.symm
        subst hn
        have f1 := hf 1 (by simp only; omega) (by omega)
        have f2 := hf 2 (by simp only; omega) (by omega)
        simp only [upd_ne _ _ _ _ (show (1 : Nat) ≠ 0 by omega), hs] at f1
        simp only [upd_ne _ _ _ _ (show (2 : Nat) ≠ 0 by omega), hu] at f2
        have hfr : ∀ i, i < m → 3 ≤ i → ob3 i = ob i := fun i hi h3 => by
          have := hf i hi (by omega)
          simp only [upd_ne _ _ _ _ (show i ≠ 0 by omega)] at this
          exact this
        clear hf hR
        try simp (maxSteps := 500000) (disch := omega) only [go_sem, Int.reduceEq, Int.reduceLT, Int.reduceLE, Int.reduceToNat, Nat.reduceLT, Nat.reduceEqDiff, Nat.reduceAdd, Nat.reduceLeDiff, Nat.reduceSub, Nat.reduceMul, ↓reduceIte, reduceCtorEq, wrap_id, w_ite_ne, w_ite_lt, Nat.sub_zero, Nat.sub_self, odv, f1]
        have hc1 := ok_orders_Issue s kk ii vv (by have := (sdOk_l hI.ok.2.1).2.2.1; omega)
        rcases hT : issS s kk ii vv with ⟨s', o', er⟩
        rw [hT] at hc1
        simp only at hc1
        refine call_pc (pc_nl hc1 (.cons (hY.nlr _) (NlRs.refl _))) (by simp [Yp, go_sem]) ?_
        try simp (maxSteps := 500000) (disch := omega) only [go_sem, Int.reduceEq, Int.reduceLT, Int.reduceLE, Int.reduceToNat, Nat.reduceLT, Nat.reduceEqDiff, Nat.reduceAdd, Nat.reduceLeDiff, Nat.reduceSub, Nat.reduceMul, ↓reduceIte, reduceCtorEq, wrap_id, w_ite_ne, w_ite_lt, Nat.sub_zero, Nat.sub_self, sdv, odv, f1]
        refine cond_d (fun he => ?_) (fun he => ?_)
        · subst he
          have hLI := hI.issue (by omega) hT
          try simp (maxSteps := 500000) (disch := omega) only [go_sem, Int.reduceEq, Int.reduceLT, Int.reduceLE, Int.reduceToNat, Nat.reduceLT, Nat.reduceEqDiff, Nat.reduceAdd, Nat.reduceLeDiff, Nat.reduceSub, Nat.reduceMul, ↓reduceIte, reduceCtorEq, wrap_id, w_ite_ne, w_ite_lt, Nat.sub_zero, Nat.sub_self, h6, h7, h8]
          have sok : ∀ {L : List AV} {X : AV} {τ : St}, SlR 4 ty_el_Order ⟨ob, m, c⟩ L X → (∀ i, i < 3 → Oth X i) → m ≤ τ.n → (∀ i, i < m → 3 ≤ i → τ.ob i = ob3 i) → SlR 4 ty_el_Order τ L X := fun h o hn hf => h.mv3 o hn fun i hi h3 => (hf i hi h3).trans (hfr i hi h3)
          refine app_slr (sok hX6 o6 (by simp only; omega) fun i hi h3 => by try simp (maxSteps := 500000) (disch := omega) only [go_sem, Int.reduceEq, Int.reduceLT, Int.reduceLE, Int.reduceToNat, Nat.reduceLT, Nat.reduceEqDiff, Nat.reduceAdd, Nat.reduceLeDiff, Nat.reduceSub, Nat.reduceMul, ↓reduceIte, reduceCtorEq, wrap_id, w_ite_ne, w_ite_lt, Nat.sub_zero, Nat.sub_self]) (by rw [ods_length]; omega) (by rw [ods_length]; omega) fun A τ1 hA hK1 => ?_
          have a1 := hK1.2.1 (m + 1) (by simp only; omega) (hX6.oth (by simp only; omega))
          have a2 := hK1.2.1 (m + 1 + 1) (by simp only; omega) (hX6.oth (by simp only; omega))
          have b0 := hK1.2.1 0 (by simp only; omega) (o6 0 (by omega))
          have b1 := hK1.2.1 1 (by simp only; omega) (o6 1 (by omega))
          have b2 := hK1.2.1 2 (by simp only; omega) (o6 2 (by omega))
          try simp (maxSteps := 500000) (disch := omega) only [go_sem, Int.reduceEq, Int.reduceLT, Int.reduceLE, Int.reduceToNat, Nat.reduceLT, Nat.reduceEqDiff, Nat.reduceAdd, Nat.reduceLeDiff, Nat.reduceSub, Nat.reduceMul, ↓reduceIte, reduceCtorEq, wrap_id, w_ite_ne, w_ite_lt, Nat.sub_zero, Nat.sub_self] at a1
          try simp (maxSteps := 500000) (disch := omega) only [go_sem, Int.reduceEq, Int.reduceLT, Int.reduceLE, Int.reduceToNat, Nat.reduceLT, Nat.reduceEqDiff, Nat.reduceAdd, Nat.reduceLeDiff, Nat.reduceSub, Nat.reduceMul, ↓reduceIte, reduceCtorEq, wrap_id, w_ite_ne, w_ite_lt, Nat.sub_zero, Nat.sub_self] at a2
          try simp (maxSteps := 500000) (disch := omega) only [go_sem, Int.reduceEq, Int.reduceLT, Int.reduceLE, Int.reduceToNat, Nat.reduceLT, Nat.reduceEqDiff, Nat.reduceAdd, Nat.reduceLeDiff, Nat.reduceSub, Nat.reduceMul, ↓reduceIte, reduceCtorEq, wrap_id, w_ite_ne, w_ite_lt, Nat.sub_zero, Nat.sub_self] at b0
          try simp (maxSteps := 500000) (disch := omega) only [go_sem, Int.reduceEq, Int.reduceLT, Int.reduceLE, Int.reduceToNat, Nat.reduceLT, Nat.reduceEqDiff, Nat.reduceAdd, Nat.reduceLeDiff, Nat.reduceSub, Nat.reduceMul, ↓reduceIte, reduceCtorEq, wrap_id, w_ite_ne, w_ite_lt, Nat.sub_zero, Nat.sub_self] at b1
          try simp (maxSteps := 500000) (disch := omega) only [go_sem, Int.reduceEq, Int.reduceLT, Int.reduceLE, Int.reduceToNat, Nat.reduceLT, Nat.reduceEqDiff, Nat.reduceAdd, Nat.reduceLeDiff, Nat.reduceSub, Nat.reduceMul, ↓reduceIte, reduceCtorEq, wrap_id, w_ite_ne, w_ite_lt, Nat.sub_zero, Nat.sub_self] at b2
          try simp (maxSteps := 500000) (disch := omega) only [go_sem, Int.reduceEq, Int.reduceLT, Int.reduceLE, Int.reduceToNat, Nat.reduceLT, Nat.reduceEqDiff, Nat.reduceAdd, Nat.reduceLeDiff, Nat.reduceSub, Nat.reduceMul, ↓reduceIte, reduceCtorEq, wrap_id, w_ite_ne, w_ite_lt, Nat.sub_zero, Nat.sub_self, a1, a2, h7]
          have hX7' := (sok hX7 o7 (τ := ⟨_, m + 1 + 1 + 1, c3 + 1 + 1 + 1⟩) (by simp only; omega) fun i hi h3 => by try simp (maxSteps := 500000) (disch := omega) only [go_sem, Int.reduceEq, Int.reduceLT, Int.reduceLE, Int.reduceToNat, Nat.reduceLT, Nat.reduceEqDiff, Nat.reduceAdd, Nat.reduceLeDiff, Nat.reduceSub, Nat.reduceMul, ↓reduceIte, reduceCtorEq, wrap_id, w_ite_ne, w_ite_lt, Nat.sub_zero, Nat.sub_self]).dj d67 hK1
          have hX8' := (sok hX8 o8 (τ := ⟨_, m + 1 + 1 + 1, c3 + 1 + 1 + 1⟩) (by simp only; omega) fun i hi h3 => by try simp (maxSteps := 500000) (disch := omega) only [go_sem, Int.reduceEq, Int.reduceLT, Int.reduceLE, Int.reduceToNat, Nat.reduceLT, Nat.reduceEqDiff, Nat.reduceAdd, Nat.reduceLeDiff, Nat.reduceSub, Nat.reduceMul, ↓reduceIte, reduceCtorEq, wrap_id, w_ite_ne, w_ite_lt, Nat.sub_zero, Nat.sub_self]).dj d68 hK1
          have dA7 := d67.kp (sok hX7 o7 (τ := ⟨_, m + 1 + 1 + 1, c3 + 1 + 1 + 1⟩) (by simp only; omega) fun i hi h3 => by try simp (maxSteps := 500000) (disch := omega) only [go_sem, Int.reduceEq, Int.reduceLT, Int.reduceLE, Int.reduceToNat, Nat.reduceLT, Nat.reduceEqDiff, Nat.reduceAdd, Nat.reduceLeDiff, Nat.reduceSub, Nat.reduceMul, ↓reduceIte, reduceCtorEq, wrap_id, w_ite_ne, w_ite_lt, Nat.sub_zero, Nat.sub_self]) hK1
          have dA8 := d68.kp (sok hX8 o8 (τ := ⟨_, m + 1 + 1 + 1, c3 + 1 + 1 + 1⟩) (by simp only; omega) fun i hi h3 => by try simp (maxSteps := 500000) (disch := omega) only [go_sem, Int.reduceEq, Int.reduceLT, Int.reduceLE, Int.reduceToNat, Nat.reduceLT, Nat.reduceEqDiff, Nat.reduceAdd, Nat.reduceLeDiff, Nat.reduceSub, Nat.reduceMul, ↓reduceIte, reduceCtorEq, wrap_id, w_ite_ne, w_ite_lt, Nat.sub_zero, Nat.sub_self]) hK1
          have oA : ∀ i, i < 3 → Oth A i := fun i hi => hK1.2.2 i (by simp only; omega) (o6 i hi)
          have hn1 := hK1.1
          simp only at hn1
          clear hK1
          refine app_slr hX7' (by rw [ods_length]; omega) (by rw [ods_length]; omega) fun B τ2 hB hK2 => ?_
          have y1 := hK2.2.1 (m + 1) (by omega) (hX7.oth (by simp only; omega))
          have y2 := hK2.2.1 (m + 1 + 1) (by omega) (hX7.oth (by simp only; omega))
          have x0 := hK2.2.1 0 (by omega) (o7 0 (by omega))
          have x1 := hK2.2.1 1 (by omega) (o7 1 (by omega))
          have x2 := hK2.2.1 2 (by omega) (o7 2 (by omega))
          rw [a1] at y1
          rw [a2] at y2
          rw [b0] at x0
          rw [b1, f1] at x1
          rw [b2, f2] at x2
          have hX8q := hX8'.dj d78 hK2
          have hAq := hA.dj dA7.symm hK2
          have dB8 := d78.kp hX8' hK2
          have dAB := (dA7.symm.kp hA hK2).symm
          have oB : ∀ i, i < 3 → Oth B i := fun i hi => hK2.2.2 i (by omega) (o7 i hi)
          have hn2 := hK2.1
          clear hK2 hX7' hX8'
          obtain ⟨obw, mw, cw⟩ := τ2
          simp only at y1 y2 x0 x1 x2 hn2
          have es : ods I ++ [AV.agg [.int .i64 o'.n, .int .i64 o'.k, .int .i64 o'.i, .int .i64 o'.v]] = ods (I ++ [o']) := by simp [ods, odv]
          rw [es] at hAq hB
          try simp (maxSteps := 500000) (disch := omega) only [go_sem, Int.reduceEq, Int.reduceLT, Int.reduceLE, Int.reduceToNat, Nat.reduceLT, Nat.reduceEqDiff, Nat.reduceAdd, Nat.reduceLeDiff, Nat.reduceSub, Nat.reduceMul, ↓reduceIte, reduceCtorEq, wrap_id, w_ite_ne, w_ite_lt, Nat.sub_zero, Nat.sub_self, a1, a2, y1, y2, x1, h6, h7, h8]
          refine lenC_st (fun σ' => LnS t 29 31 σ' A B X8 (I ++ [o']) s' u D ∧ 3 ≤ σ'.n) ?_ ?_
          · refine ⟨⟨⟨at3, by try simp (maxSteps := 500000) (disch := omega) only [go_sem, Int.reduceEq, Int.reduceLT, Int.reduceLE, Int.reduceToNat, Nat.reduceLT, Nat.reduceEqDiff, Nat.reduceAdd, Nat.reduceLeDiff, Nat.reduceSub, Nat.reduceMul, ↓reduceIte, reduceCtorEq, wrap_id, w_ite_ne, w_ite_lt, Nat.sub_zero, Nat.sub_self]; rw [x0]; exact hd3⟩, ⟨_, .inl rfl, by try simp (maxSteps := 500000) (disch := omega) only [go_sem, Int.reduceEq, Int.reduceLT, Int.reduceLE, Int.reduceToNat, Nat.reduceLT, Nat.reduceEqDiff, Nat.reduceAdd, Nat.reduceLeDiff, Nat.reduceSub, Nat.reduceMul, ↓reduceIte, reduceCtorEq, wrap_id, w_ite_ne, w_ite_lt, Nat.sub_zero, Nat.sub_self]⟩, ⟨Z, hZ, by try simp (maxSteps := 500000) (disch := omega) only [go_sem, Int.reduceEq, Int.reduceLT, Int.reduceLE, Int.reduceToNat, Nat.reduceLT, Nat.reduceEqDiff, Nat.reduceAdd, Nat.reduceLeDiff, Nat.reduceSub, Nat.reduceMul, ↓reduceIte, reduceCtorEq, wrap_id, w_ite_ne, w_ite_lt, Nat.sub_zero, Nat.sub_self]; exact x2⟩, hAq.mv3 oA (by simp only; omega) ?_, hB.mv3 oB (by simp only; omega) ?_, ?_, oA, oB, o8, dAB, dA8, dB8⟩, by simp only; omega⟩
            · intro i hi h3
              try simp (maxSteps := 500000) (disch := omega) only [go_sem, Int.reduceEq, Int.reduceLT, Int.reduceLE, Int.reduceToNat, Nat.reduceLT, Nat.reduceEqDiff, Nat.reduceAdd, Nat.reduceLeDiff, Nat.reduceSub, Nat.reduceMul, ↓reduceIte, reduceCtorEq, wrap_id, w_ite_ne, w_ite_lt, Nat.sub_zero, Nat.sub_self]
            · intro i hi h3
              try simp (maxSteps := 500000) (disch := omega) only [go_sem, Int.reduceEq, Int.reduceLT, Int.reduceLE, Int.reduceToNat, Nat.reduceLT, Nat.reduceEqDiff, Nat.reduceAdd, Nat.reduceLeDiff, Nat.reduceSub, Nat.reduceMul, ↓reduceIte, reduceCtorEq, wrap_id, w_ite_ne, w_ite_lt, Nat.sub_zero, Nat.sub_self]
            · rw [List.take_append_of_le_length hI.dl]
              refine hX8q.mv3 o8 (by simp only; omega) ?_
              intro i hi h3
              try simp (maxSteps := 500000) (disch := omega) only [go_sem, Int.reduceEq, Int.reduceLT, Int.reduceLE, Int.reduceToNat, Nat.reduceLT, Nat.reduceEqDiff, Nat.reduceAdd, Nat.reduceLeDiff, Nat.reduceSub, Nat.reduceMul, ↓reduceIte, reduceCtorEq, wrap_id, w_ite_ne, w_ite_lt, Nat.sub_zero, Nat.sub_self]
          · rintro ⟨obz, mz, cz⟩ ⟨hLS, hmz⟩
            have hLS0 := hLS
            obtain ⟨⟨atz, hdz⟩, ⟨Yz, hYz, hsz⟩, ⟨Zz, hZz, huz⟩, hz6, hz7, hz8, _⟩ := hLS
            simp only at hdz hsz huz hmz
            have hDl := hLI.dl
            have hIl := hLI.len
            have hl8 : (ods ((I ++ [o']).take D)).length = D := by rw [ods_length, List.length_take]; exact Nat.min_eq_left hDl
            refine (ER.of_slr hz8).len ?_
            try simp (maxSteps := 500000) (disch := omega) only [go_sem, Int.reduceEq, Int.reduceLT, Int.reduceLE, Int.reduceToNat, Nat.reduceLT, Nat.reduceEqDiff, Nat.reduceAdd, Nat.reduceLeDiff, Nat.reduceSub, Nat.reduceMul, ↓reduceIte, reduceCtorEq, wrap_id, w_ite_ne, w_ite_lt, Nat.sub_zero, Nat.sub_self, hl8, h6, h7, h8]
            refine (ER.of_slr hz6).len ?_
            try simp (maxSteps := 500000) (disch := omega) only [go_sem, Int.reduceEq, Int.reduceLT, Int.reduceLE, Int.reduceToNat, Nat.reduceLT, Nat.reduceEqDiff, Nat.reduceAdd, Nat.reduceLeDiff, Nat.reduceSub, Nat.reduceMul, ↓reduceIte, reduceCtorEq, wrap_id, w_ite_ne, w_ite_lt, Nat.sub_zero, Nat.sub_self, ods_length, h6, h7, h8]
            refine gd_fd rfl (fun h => absurd h (by omega)) (fun _ => ?_)
            try simp (maxSteps := 500000) (disch := omega) only [go_sem, Int.reduceEq, Int.reduceLT, Int.reduceLE, Int.reduceToNat, Nat.reduceLT, Nat.reduceEqDiff, Nat.reduceAdd, Nat.reduceLeDiff, Nat.reduceSub, Nat.reduceMul, ↓reduceIte, reduceCtorEq, wrap_id, w_ite_ne, w_ite_lt, Nat.sub_zero, Nat.sub_self, h6, h7, h8]
            refine (ER.of_slr hz8).len ?_
            try simp (maxSteps := 500000) (disch := omega) only [go_sem, Int.reduceEq, Int.reduceLT, Int.reduceLE, Int.reduceToNat, Nat.reduceLT, Nat.reduceEqDiff, Nat.reduceAdd, Nat.reduceLeDiff, Nat.reduceSub, Nat.reduceMul, ↓reduceIte, reduceCtorEq, wrap_id, w_ite_ne, w_ite_lt, Nat.sub_zero, Nat.sub_self, hl8, h6, h7, h8]
            refine (ER.of_slr hz6).take rfl (by rw [ods_length]; omega) fun E hE hoE => ?_
            try simp (maxSteps := 500000) (disch := omega) only [go_sem, Int.reduceEq, Int.reduceLT, Int.reduceLE, Int.reduceToNat, Nat.reduceLT, Nat.reduceEqDiff, Nat.reduceAdd, Nat.reduceLeDiff, Nat.reduceSub, Nat.reduceMul, ↓reduceIte, reduceCtorEq, wrap_id, w_ite_ne, w_ite_lt, Nat.sub_zero, Nat.sub_self, h6, h7, h8]
            refine call_lent (ok_ref27_SameOrders ((I ++ [o']).take D) ((I ++ [o']).take D) (by rw [List.length_take]; omega)) (.cons ((ER.of_slr hz8).pub' (ods_pur _) (ods_ok _)) (.cons ?_ .nil)) rfl ?_
            · have := hE.pub' (fun x hx => ods_pur _ x (List.mem_of_mem_take hx)) (fun x hx => ods_ok _ x (List.mem_of_mem_take hx))
              rw [show (ods ((I ++ [o']))).take D = ods (((I ++ [o'])).take D) by simp [ods]] at this
              exact this
            try simp (maxSteps := 500000) (disch := omega) only [go_sem, Int.reduceEq, Int.reduceLT, Int.reduceLE, Int.reduceToNat, Nat.reduceLT, Nat.reduceEqDiff, Nat.reduceAdd, Nat.reduceLeDiff, Nat.reduceSub, Nat.reduceMul, ↓reduceIte, reduceCtorEq, wrap_id, w_ite_ne, w_ite_lt, Nat.sub_zero, Nat.sub_self, decide_true, huz, h6, h7, h8]
            refine (ER.of_slr hz8).len ?_
            try simp (maxSteps := 500000) (disch := omega) only [go_sem, Int.reduceEq, Int.reduceLT, Int.reduceLE, Int.reduceToNat, Nat.reduceLT, Nat.reduceEqDiff, Nat.reduceAdd, Nat.reduceLeDiff, Nat.reduceSub, Nat.reduceMul, ↓reduceIte, reduceCtorEq, wrap_id, w_ite_ne, w_ite_lt, Nat.sub_zero, Nat.sub_self, hl8, hLI.ud, decide_true, h10]
            refine up_nextG mz hk60 (by omega) ⟨(by first | ((try simp (maxSteps := 1000000) only [go_sem, Int.reduceEq, Int.reduceLT, Int.reduceLE, Int.reduceToNat, Nat.reduceLT, Nat.reduceEqDiff, Nat.reduceAdd, Nat.reduceLeDiff, Nat.reduceSub, Nat.reduceMul, ↓reduceIte, reduceCtorEq, w_app_nl]); done) | ((try simp (maxSteps := 1000000) only [go_sem, Int.reduceEq, Int.reduceLT, Int.reduceLE, Int.reduceToNat, Nat.reduceLT, Nat.reduceEqDiff, Nat.reduceAdd, Nat.reduceLeDiff, Nat.reduceSub, Nat.reduceMul, ↓reduceIte, reduceCtorEq, w_app_nl]); rfl) | ((try simp (maxSteps := 1000000) (disch := omega) only [go_sem, Int.reduceEq, Int.reduceLT, Int.reduceLE, Int.reduceToNat, Nat.reduceLT, Nat.reduceEqDiff, Nat.reduceAdd, Nat.reduceLeDiff, Nat.reduceSub, Nat.reduceMul, ↓reduceIte, reduceCtorEq, w_app_nl, wrap_id, w_ite_ne, w_ite_lt]); rfl) | (simp (maxSteps := 1000000) (disch := omega) only [go_sem, Int.reduceEq, Int.reduceLT, Int.reduceLE, Int.reduceToNat, Nat.reduceLT, Nat.reduceEqDiff, Nat.reduceAdd, Nat.reduceLeDiff, Nat.reduceSub, Nat.reduceMul, ↓reduceIte, reduceCtorEq, w_app_nl, wrap_id, w_ite_ne, w_ite_lt]; done)), (I ++ [o']), s', u, D, cf, by try simp (maxSteps := 500000) (disch := omega) only [go_sem, Int.reduceEq, Int.reduceLT, Int.reduceLE, Int.reduceToNat, Nat.reduceLT, Nat.reduceEqDiff, Nat.reduceAdd, Nat.reduceLeDiff, Nat.reduceSub, Nat.reduceMul, ↓reduceIte, reduceCtorEq, wrap_id, w_ite_ne, w_ite_lt, Nat.sub_zero, Nat.sub_self, h9], by rw [List.length_append]; simp only [List.length_cons, List.length_nil]; omega, hLI, ?_⟩
            try simp (maxSteps := 500000) (disch := omega) only [go_sem, Int.reduceEq, Int.reduceLT, Int.reduceLE, Int.reduceToNat, Nat.reduceLT, Nat.reduceEqDiff, Nat.reduceAdd, Nat.reduceLeDiff, Nat.reduceSub, Nat.reduceMul, ↓reduceIte, reduceCtorEq, wrap_id, w_ite_ne, w_ite_lt, Nat.sub_zero, Nat.sub_self, h6, h7, h8]
            exact hLS0.trunc hmz
            
        · have hLI := hI
          try simp (maxSteps := 500000) (disch := omega) only [go_sem, Int.reduceEq, Int.reduceLT, Int.reduceLE, Int.reduceToNat, Nat.reduceLT, Nat.reduceEqDiff, Nat.reduceAdd, Nat.reduceLeDiff, Nat.reduceSub, Nat.reduceMul, ↓reduceIte, reduceCtorEq, wrap_id, w_ite_ne, w_ite_lt, Nat.sub_zero, Nat.sub_self, h6, h7, h8]
          refine lenC_st (fun σ' => LnS t 29 31 σ' X6 X7 X8 I s u D ∧ 3 ≤ σ'.n) ?_ ?_
          · refine ⟨⟨⟨at3, by try simp (maxSteps := 500000) (disch := omega) only [go_sem, Int.reduceEq, Int.reduceLT, Int.reduceLE, Int.reduceToNat, Nat.reduceLT, Nat.reduceEqDiff, Nat.reduceAdd, Nat.reduceLeDiff, Nat.reduceSub, Nat.reduceMul, ↓reduceIte, reduceCtorEq, wrap_id, w_ite_ne, w_ite_lt, Nat.sub_zero, Nat.sub_self, hd3]⟩, ⟨Y, hY, by try simp (maxSteps := 500000) (disch := omega) only [go_sem, Int.reduceEq, Int.reduceLT, Int.reduceLE, Int.reduceToNat, Nat.reduceLT, Nat.reduceEqDiff, Nat.reduceAdd, Nat.reduceLeDiff, Nat.reduceSub, Nat.reduceMul, ↓reduceIte, reduceCtorEq, wrap_id, w_ite_ne, w_ite_lt, Nat.sub_zero, Nat.sub_self, f1]⟩, ⟨Z, hZ, by try simp (maxSteps := 500000) (disch := omega) only [go_sem, Int.reduceEq, Int.reduceLT, Int.reduceLE, Int.reduceToNat, Nat.reduceLT, Nat.reduceEqDiff, Nat.reduceAdd, Nat.reduceLeDiff, Nat.reduceSub, Nat.reduceMul, ↓reduceIte, reduceCtorEq, wrap_id, w_ite_ne, w_ite_lt, Nat.sub_zero, Nat.sub_self, f2]⟩, hX6.mv3 o6 (by simp only; omega) ?_, hX7.mv3 o7 (by simp only; omega) ?_, hX8.mv3 o8 (by simp only; omega) ?_, o6, o7, o8, d67, d68, d78⟩, by simp only; omega⟩
            all_goals
              intro i hi h3
              simp only at hi
              try simp (maxSteps := 500000) (disch := omega) only [go_sem, Int.reduceEq, Int.reduceLT, Int.reduceLE, Int.reduceToNat, Nat.reduceLT, Nat.reduceEqDiff, Nat.reduceAdd, Nat.reduceLeDiff, Nat.reduceSub, Nat.reduceMul, ↓reduceIte, reduceCtorEq, wrap_id, w_ite_ne, w_ite_lt, Nat.sub_zero, Nat.sub_self]
              exact hfr i hi h3
          · rintro ⟨obz, mz, cz⟩ ⟨hLS, hmz⟩
            have hLS0 := hLS
            obtain ⟨⟨atz, hdz⟩, ⟨Yz, hYz, hsz⟩, ⟨Zz, hZz, huz⟩, hz6, hz7, hz8, _⟩ := hLS
            simp only at hdz hsz huz hmz
            have hDl := hLI.dl
            have hIl := hLI.len
            have hl8 : (ods (I.take D)).length = D := by simp [ods]; omega
            refine (ER.of_slr hz8).len ?_
            try simp (maxSteps := 500000) (disch := omega) only [go_sem, Int.reduceEq, Int.reduceLT, Int.reduceLE, Int.reduceToNat, Nat.reduceLT, Nat.reduceEqDiff, Nat.reduceAdd, Nat.reduceLeDiff, Nat.reduceSub, Nat.reduceMul, ↓reduceIte, reduceCtorEq, wrap_id, w_ite_ne, w_ite_lt, Nat.sub_zero, Nat.sub_self, hl8, h6, h7, h8]
            refine (ER.of_slr hz6).len ?_
            try simp (maxSteps := 500000) (disch := omega) only [go_sem, Int.reduceEq, Int.reduceLT, Int.reduceLE, Int.reduceToNat, Nat.reduceLT, Nat.reduceEqDiff, Nat.reduceAdd, Nat.reduceLeDiff, Nat.reduceSub, Nat.reduceMul, ↓reduceIte, reduceCtorEq, wrap_id, w_ite_ne, w_ite_lt, Nat.sub_zero, Nat.sub_self, ods_length, h6, h7, h8]
            refine gd_fd rfl (fun h => absurd h (by omega)) (fun _ => ?_)
            try simp (maxSteps := 500000) (disch := omega) only [go_sem, Int.reduceEq, Int.reduceLT, Int.reduceLE, Int.reduceToNat, Nat.reduceLT, Nat.reduceEqDiff, Nat.reduceAdd, Nat.reduceLeDiff, Nat.reduceSub, Nat.reduceMul, ↓reduceIte, reduceCtorEq, wrap_id, w_ite_ne, w_ite_lt, Nat.sub_zero, Nat.sub_self, h6, h7, h8]
            refine (ER.of_slr hz8).len ?_
            try simp (maxSteps := 500000) (disch := omega) only [go_sem, Int.reduceEq, Int.reduceLT, Int.reduceLE, Int.reduceToNat, Nat.reduceLT, Nat.reduceEqDiff, Nat.reduceAdd, Nat.reduceLeDiff, Nat.reduceSub, Nat.reduceMul, ↓reduceIte, reduceCtorEq, wrap_id, w_ite_ne, w_ite_lt, Nat.sub_zero, Nat.sub_self, hl8, h6, h7, h8]
            refine (ER.of_slr hz6).take rfl (by rw [ods_length]; omega) fun E hE hoE => ?_
            try simp (maxSteps := 500000) (disch := omega) only [go_sem, Int.reduceEq, Int.reduceLT, Int.reduceLE, Int.reduceToNat, Nat.reduceLT, Nat.reduceEqDiff, Nat.reduceAdd, Nat.reduceLeDiff, Nat.reduceSub, Nat.reduceMul, ↓reduceIte, reduceCtorEq, wrap_id, w_ite_ne, w_ite_lt, Nat.sub_zero, Nat.sub_self, h6, h7, h8]
            refine call_lent (ok_ref27_SameOrders (I.take D) (I.take D) (by simp; omega)) (.cons ((ER.of_slr hz8).pub' (ods_pur _) (ods_ok _)) (.cons ?_ .nil)) rfl ?_
            · have := hE.pub' (fun x hx => ods_pur I x (List.mem_of_mem_take hx)) (fun x hx => ods_ok I x (List.mem_of_mem_take hx))
              rw [show (ods I).take D = ods (I.take D) by simp [ods]] at this
              exact this
            try simp (maxSteps := 500000) (disch := omega) only [go_sem, Int.reduceEq, Int.reduceLT, Int.reduceLE, Int.reduceToNat, Nat.reduceLT, Nat.reduceEqDiff, Nat.reduceAdd, Nat.reduceLeDiff, Nat.reduceSub, Nat.reduceMul, ↓reduceIte, reduceCtorEq, wrap_id, w_ite_ne, w_ite_lt, Nat.sub_zero, Nat.sub_self, decide_true, huz, h6, h7, h8]
            refine (ER.of_slr hz8).len ?_
            try simp (maxSteps := 500000) (disch := omega) only [go_sem, Int.reduceEq, Int.reduceLT, Int.reduceLE, Int.reduceToNat, Nat.reduceLT, Nat.reduceEqDiff, Nat.reduceAdd, Nat.reduceLeDiff, Nat.reduceSub, Nat.reduceMul, ↓reduceIte, reduceCtorEq, wrap_id, w_ite_ne, w_ite_lt, Nat.sub_zero, Nat.sub_self, hl8, hLI.ud, decide_true, h10]
            refine up_nextG mz hk60 (by omega) ⟨(by first | ((try simp (maxSteps := 1000000) only [go_sem, Int.reduceEq, Int.reduceLT, Int.reduceLE, Int.reduceToNat, Nat.reduceLT, Nat.reduceEqDiff, Nat.reduceAdd, Nat.reduceLeDiff, Nat.reduceSub, Nat.reduceMul, ↓reduceIte, reduceCtorEq, w_app_nl]); done) | ((try simp (maxSteps := 1000000) only [go_sem, Int.reduceEq, Int.reduceLT, Int.reduceLE, Int.reduceToNat, Nat.reduceLT, Nat.reduceEqDiff, Nat.reduceAdd, Nat.reduceLeDiff, Nat.reduceSub, Nat.reduceMul, ↓reduceIte, reduceCtorEq, w_app_nl]); rfl) | ((try simp (maxSteps := 1000000) (disch := omega) only [go_sem, Int.reduceEq, Int.reduceLT, Int.reduceLE, Int.reduceToNat, Nat.reduceLT, Nat.reduceEqDiff, Nat.reduceAdd, Nat.reduceLeDiff, Nat.reduceSub, Nat.reduceMul, ↓reduceIte, reduceCtorEq, w_app_nl, wrap_id, w_ite_ne, w_ite_lt]); rfl) | (simp (maxSteps := 1000000) (disch := omega) only [go_sem, Int.reduceEq, Int.reduceLT, Int.reduceLE, Int.reduceToNat, Nat.reduceLT, Nat.reduceEqDiff, Nat.reduceAdd, Nat.reduceLeDiff, Nat.reduceSub, Nat.reduceMul, ↓reduceIte, reduceCtorEq, w_app_nl, wrap_id, w_ite_ne, w_ite_lt]; done)), I, s, u, D, cf, by try simp (maxSteps := 500000) (disch := omega) only [go_sem, Int.reduceEq, Int.reduceLT, Int.reduceLE, Int.reduceToNat, Nat.reduceLT, Nat.reduceEqDiff, Nat.reduceAdd, Nat.reduceLeDiff, Nat.reduceSub, Nat.reduceMul, ↓reduceIte, reduceCtorEq, wrap_id, w_ite_ne, w_ite_lt, Nat.sub_zero, Nat.sub_self, h9], by omega, hLI, ?_⟩
            try simp (maxSteps := 500000) (disch := omega) only [go_sem, Int.reduceEq, Int.reduceLT, Int.reduceLE, Int.reduceToNat, Nat.reduceLT, Nat.reduceEqDiff, Nat.reduceAdd, Nat.reduceLeDiff, Nat.reduceSub, Nat.reduceMul, ↓reduceIte, reduceCtorEq, wrap_id, w_ite_ne, w_ite_lt, Nat.sub_zero, Nat.sub_self, h6, h7, h8]
            exact hLS0.trunc hmz
            
      · try simp (maxSteps := 500000) (disch := omega) only [go_sem, Int.reduceEq, Int.reduceLT, Int.reduceLE, Int.reduceToNat, Nat.reduceLT, Nat.reduceEqDiff, Nat.reduceAdd, Nat.reduceLeDiff, Nat.reduceSub, Nat.reduceMul, ↓reduceIte, reduceCtorEq, wrap_id, w_ite_ne, w_ite_lt, Nat.sub_zero, Nat.sub_self, h7]
        refine hX7.len' ?_
        try simp (maxSteps := 500000) (disch := omega) only [go_sem, Int.reduceEq, Int.reduceLT, Int.reduceLE, Int.reduceToNat, Nat.reduceLT, Nat.reduceEqDiff, Nat.reduceAdd, Nat.reduceLeDiff, Nat.reduceSub, Nat.reduceMul, ↓reduceIte, reduceCtorEq, wrap_id, w_ite_ne, w_ite_lt, Nat.sub_zero, Nat.sub_self, ods_length]
        refine cond_d (fun g3 => ?_) (fun g3 => ?_)
        rotate_left
        · try simp (maxSteps := 500000) (disch := omega) only [go_sem, Int.reduceEq, Int.reduceLT, Int.reduceLE, Int.reduceToNat, Nat.reduceLT, Nat.reduceEqDiff, Nat.reduceAdd, Nat.reduceLeDiff, Nat.reduceSub, Nat.reduceMul, ↓reduceIte, reduceCtorEq, wrap_id, w_ite_ne, w_ite_lt, Nat.sub_zero, Nat.sub_self, h6, h7, h8]
          have hLI := hI
          refine lenC_st (fun σ' => LnS t 29 31 σ' X6 X7 X8 I s u D ∧ 3 ≤ σ'.n) ?_ ?_
          · refine ⟨⟨⟨at2, by try simp (maxSteps := 500000) (disch := omega) only [go_sem, Int.reduceEq, Int.reduceLT, Int.reduceLE, Int.reduceToNat, Nat.reduceLT, Nat.reduceEqDiff, Nat.reduceAdd, Nat.reduceLeDiff, Nat.reduceSub, Nat.reduceMul, ↓reduceIte, reduceCtorEq, wrap_id, w_ite_ne, w_ite_lt, Nat.sub_zero, Nat.sub_self]⟩, ⟨Y, hY, by try simp (maxSteps := 500000) (disch := omega) only [go_sem, Int.reduceEq, Int.reduceLT, Int.reduceLE, Int.reduceToNat, Nat.reduceLT, Nat.reduceEqDiff, Nat.reduceAdd, Nat.reduceLeDiff, Nat.reduceSub, Nat.reduceMul, ↓reduceIte, reduceCtorEq, wrap_id, w_ite_ne, w_ite_lt, Nat.sub_zero, Nat.sub_self, hs]⟩, ⟨Z, hZ, by try simp (maxSteps := 500000) (disch := omega) only [go_sem, Int.reduceEq, Int.reduceLT, Int.reduceLE, Int.reduceToNat, Nat.reduceLT, Nat.reduceEqDiff, Nat.reduceAdd, Nat.reduceLeDiff, Nat.reduceSub, Nat.reduceMul, ↓reduceIte, reduceCtorEq, wrap_id, w_ite_ne, w_ite_lt, Nat.sub_zero, Nat.sub_self, hu]⟩, hX6.mv3 o6 (by simp only; omega) ?_, hX7.mv3 o7 (by simp only; omega) ?_, hX8.mv3 o8 (by simp only; omega) ?_, o6, o7, o8, d67, d68, d78⟩, by simp only; omega⟩
            all_goals
              intro i hi h3
              simp only at hi
              try simp (maxSteps := 500000) (disch := omega) only [go_sem, Int.reduceEq, Int.reduceLT, Int.reduceLE, Int.reduceToNat, Nat.reduceLT, Nat.reduceEqDiff, Nat.reduceAdd, Nat.reduceLeDiff, Nat.reduceSub, Nat.reduceMul, ↓reduceIte, reduceCtorEq, wrap_id, w_ite_ne, w_ite_lt, Nat.sub_zero, Nat.sub_self]
          · rintro ⟨obz, mz, cz⟩ ⟨hLS, hmz⟩
            have hLS0 := hLS
            obtain ⟨⟨atz, hdz⟩, ⟨Yz, hYz, hsz⟩, ⟨Zz, hZz, huz⟩, hz6, hz7, hz8, _⟩ := hLS
            simp only at hdz hsz huz hmz
            have hDl := hLI.dl
            have hIl := hLI.len
            have hl8 : (ods (I.take D)).length = D := by rw [ods_length, List.length_take]; exact Nat.min_eq_left hDl
            refine (ER.of_slr hz8).len ?_
            try simp (maxSteps := 500000) (disch := omega) only [go_sem, Int.reduceEq, Int.reduceLT, Int.reduceLE, Int.reduceToNat, Nat.reduceLT, Nat.reduceEqDiff, Nat.reduceAdd, Nat.reduceLeDiff, Nat.reduceSub, Nat.reduceMul, ↓reduceIte, reduceCtorEq, wrap_id, w_ite_ne, w_ite_lt, Nat.sub_zero, Nat.sub_self, hl8, h6, h7, h8]
            refine (ER.of_slr hz6).len ?_
            try simp (maxSteps := 500000) (disch := omega) only [go_sem, Int.reduceEq, Int.reduceLT, Int.reduceLE, Int.reduceToNat, Nat.reduceLT, Nat.reduceEqDiff, Nat.reduceAdd, Nat.reduceLeDiff, Nat.reduceSub, Nat.reduceMul, ↓reduceIte, reduceCtorEq, wrap_id, w_ite_ne, w_ite_lt, Nat.sub_zero, Nat.sub_self, ods_length, h6, h7, h8]
            refine gd_fd rfl (fun h => absurd h (by omega)) (fun _ => ?_)
            try simp (maxSteps := 500000) (disch := omega) only [go_sem, Int.reduceEq, Int.reduceLT, Int.reduceLE, Int.reduceToNat, Nat.reduceLT, Nat.reduceEqDiff, Nat.reduceAdd, Nat.reduceLeDiff, Nat.reduceSub, Nat.reduceMul, ↓reduceIte, reduceCtorEq, wrap_id, w_ite_ne, w_ite_lt, Nat.sub_zero, Nat.sub_self, h6, h7, h8]
            refine (ER.of_slr hz8).len ?_
            try simp (maxSteps := 500000) (disch := omega) only [go_sem, Int.reduceEq, Int.reduceLT, Int.reduceLE, Int.reduceToNat, Nat.reduceLT, Nat.reduceEqDiff, Nat.reduceAdd, Nat.reduceLeDiff, Nat.reduceSub, Nat.reduceMul, ↓reduceIte, reduceCtorEq, wrap_id, w_ite_ne, w_ite_lt, Nat.sub_zero, Nat.sub_self, hl8, h6, h7, h8]
            refine (ER.of_slr hz6).take rfl (by rw [ods_length]; omega) fun E hE hoE => ?_
            try simp (maxSteps := 500000) (disch := omega) only [go_sem, Int.reduceEq, Int.reduceLT, Int.reduceLE, Int.reduceToNat, Nat.reduceLT, Nat.reduceEqDiff, Nat.reduceAdd, Nat.reduceLeDiff, Nat.reduceSub, Nat.reduceMul, ↓reduceIte, reduceCtorEq, wrap_id, w_ite_ne, w_ite_lt, Nat.sub_zero, Nat.sub_self, h6, h7, h8]
            refine call_lent (ok_ref27_SameOrders (I.take D) (I.take D) (by rw [List.length_take]; omega)) (.cons ((ER.of_slr hz8).pub' (ods_pur _) (ods_ok _)) (.cons ?_ .nil)) rfl ?_
            · have := hE.pub' (fun x hx => ods_pur _ x (List.mem_of_mem_take hx)) (fun x hx => ods_ok _ x (List.mem_of_mem_take hx))
              rw [show (ods (I)).take D = ods ((I).take D) by simp [ods]] at this
              exact this
            try simp (maxSteps := 500000) (disch := omega) only [go_sem, Int.reduceEq, Int.reduceLT, Int.reduceLE, Int.reduceToNat, Nat.reduceLT, Nat.reduceEqDiff, Nat.reduceAdd, Nat.reduceLeDiff, Nat.reduceSub, Nat.reduceMul, ↓reduceIte, reduceCtorEq, wrap_id, w_ite_ne, w_ite_lt, Nat.sub_zero, Nat.sub_self, decide_true, huz, h6, h7, h8]
            refine (ER.of_slr hz8).len ?_
            try simp (maxSteps := 500000) (disch := omega) only [go_sem, Int.reduceEq, Int.reduceLT, Int.reduceLE, Int.reduceToNat, Nat.reduceLT, Nat.reduceEqDiff, Nat.reduceAdd, Nat.reduceLeDiff, Nat.reduceSub, Nat.reduceMul, ↓reduceIte, reduceCtorEq, wrap_id, w_ite_ne, w_ite_lt, Nat.sub_zero, Nat.sub_self, hl8, hLI.ud, decide_true, h10]
            refine up_nextG mz hk60 (by omega) ⟨(by first | ((try simp (maxSteps := 1000000) only [go_sem, Int.reduceEq, Int.reduceLT, Int.reduceLE, Int.reduceToNat, Nat.reduceLT, Nat.reduceEqDiff, Nat.reduceAdd, Nat.reduceLeDiff, Nat.reduceSub, Nat.reduceMul, ↓reduceIte, reduceCtorEq, w_app_nl]); done) | ((try simp (maxSteps := 1000000) only [go_sem, Int.reduceEq, Int.reduceLT, Int.reduceLE, Int.reduceToNat, Nat.reduceLT, Nat.reduceEqDiff, Nat.reduceAdd, Nat.reduceLeDiff, Nat.reduceSub, Nat.reduceMul, ↓reduceIte, reduceCtorEq, w_app_nl]); rfl) | ((try simp (maxSteps := 1000000) (disch := omega) only [go_sem, Int.reduceEq, Int.reduceLT, Int.reduceLE, Int.reduceToNat, Nat.reduceLT, Nat.reduceEqDiff, Nat.reduceAdd, Nat.reduceLeDiff, Nat.reduceSub, Nat.reduceMul, ↓reduceIte, reduceCtorEq, w_app_nl, wrap_id, w_ite_ne, w_ite_lt]); rfl) | (simp (maxSteps := 1000000) (disch := omega) only [go_sem, Int.reduceEq, Int.reduceLT, Int.reduceLE, Int.reduceToNat, Nat.reduceLT, Nat.reduceEqDiff, Nat.reduceAdd, Nat.reduceLeDiff, Nat.reduceSub, Nat.reduceMul, ↓reduceIte, reduceCtorEq, w_app_nl, wrap_id, w_ite_ne, w_ite_lt]; done)), I, s, u, D, cf, by try simp (maxSteps := 500000) (disch := omega) only [go_sem, Int.reduceEq, Int.reduceLT, Int.reduceLE, Int.reduceToNat, Nat.reduceLT, Nat.reduceEqDiff, Nat.reduceAdd, Nat.reduceLeDiff, Nat.reduceSub, Nat.reduceMul, ↓reduceIte, reduceCtorEq, wrap_id, w_ite_ne, w_ite_lt, Nat.sub_zero, Nat.sub_self, h9], by omega, hLI, ?_⟩
            try simp (maxSteps := 500000) (disch := omega) only [go_sem, Int.reduceEq, Int.reduceLT, Int.reduceLE, Int.reduceToNat, Nat.reduceLT, Nat.reduceEqDiff, Nat.reduceAdd, Nat.reduceLeDiff, Nat.reduceSub, Nat.reduceMul, ↓reduceIte, reduceCtorEq, wrap_id, w_ite_ne, w_ite_lt, Nat.sub_zero, Nat.sub_self, h6, h7, h8]
            exact hLS0.trunc hmz
            
        try simp (maxSteps := 500000) (disch := omega) only [go_sem, Int.reduceEq, Int.reduceLT, Int.reduceLE, Int.reduceToNat, Nat.reduceLT, Nat.reduceEqDiff, Nat.reduceAdd, Nat.reduceLeDiff, Nat.reduceSub, Nat.reduceMul, ↓reduceIte, reduceCtorEq, wrap_id, w_ite_ne, w_ite_lt, Nat.sub_zero, Nat.sub_self, h7, hu]
        refine hX7.len' ?_
        try simp (maxSteps := 500000) (disch := omega) only [go_sem, Int.reduceEq, Int.reduceLT, Int.reduceLE, Int.reduceToNat, Nat.reduceLT, Nat.reduceEqDiff, Nat.reduceAdd, Nat.reduceLeDiff, Nat.reduceSub, Nat.reduceMul, ↓reduceIte, reduceCtorEq, wrap_id, w_ite_ne, w_ite_lt, Nat.sub_zero, Nat.sub_self, ods_length, hu, Z1, Z2, Z3]
        refine call_hc (ok_mk_Deck_Next _ 0 0 ty_Deck true t at2 I.length (by try simp (maxSteps := 500000) (disch := omega) only [go_sem, Int.reduceEq, Int.reduceLT, Int.reduceLE, Int.reduceToNat, Nat.reduceLT, Nat.reduceEqDiff, Nat.reduceAdd, Nat.reduceLeDiff, Nat.reduceSub, Nat.reduceMul, ↓reduceIte, reduceCtorEq, wrap_id, w_ite_ne, w_ite_lt, Nat.sub_zero, Nat.sub_self]) (by have := hI.len; omega) hlt) ?_
        have hx4 := deckR_bd t at2 I.length
        generalize deckR t at2 I.length = dr at *
        obtain ⟨x4, at3⟩ := dr
        simp only at hx4
        have hx5 : x4.toNat < I.length := by omega
        have hg : I[x4.toNat]? = some I[x4.toNat] := List.getElem?_eq_getElem hx5
        generalize I[x4.toNat] = y at *
        have hgy : (ods I)[x4.toNat]? = some (odv y) := by rw [ods_get, hg]; rfl
        obtain ⟨u', l, D', hT, hLI, hTk, hDD, _⟩ := hI.take (List.mem_of_getElem? hg)
        have hc1 := ok_orders_Take u y (by have := (snOk_l hI.ok.1).2.2.1; omega)
        rw [hT] at hc1
        simp only at hc1
        have hX7k := hX7
        rcases hX7 with ⟨_, h⟩ | ⟨id7, g7, rfl, i7, q7⟩
        · have : I = [] := by simpa [ods] using h
          rw [this] at hx5; simp at hx5
        rw [ods_length] at h7 hX7k o7 d67 d78
        simp only at i7 q7
        have j0 : ¬ id7 = 0 := (o7 0 (by omega)).ne
        have j1 : ¬ id7 = 1 := (o7 1 (by omega)).ne
        have j2 : ¬ id7 = 2 := (o7 2 (by omega)).ne
        try simp (maxSteps := 500000) (disch := omega) only [go_sem, Int.reduceEq, Int.reduceLT, Int.reduceLE, Int.reduceToNat, Nat.reduceLT, Nat.reduceEqDiff, Nat.reduceAdd, Nat.reduceLeDiff, Nat.reduceSub, Nat.reduceMul, ↓reduceIte, reduceCtorEq, wrap_id, w_ite_ne, w_ite_lt, Nat.sub_zero, Nat.sub_self, h7, q7, hgy, hu, odv, ods_length]
        refine ⟨by omega, by omega, ?_⟩
        refine call_pc (pc_nl hc1 (.cons (hZ.nlr _) (NlRs.refl _))) (by simp [Zp, go_sem, odv]) ?_
        try simp (maxSteps := 500000) (disch := omega) only [go_sem, Int.reduceEq, Int.reduceLT, Int.reduceLE, Int.reduceToNat, Nat.reduceLT, Nat.reduceEqDiff, Nat.reduceAdd, Nat.reduceLeDiff, Nat.reduceSub, Nat.reduceMul, ↓reduceIte, reduceCtorEq, wrap_id, w_ite_ne, w_ite_lt, Nat.sub_zero, Nat.sub_self, snv, odv, hu, h8, decide_true]
        have hlen := (takT_len u y).2
        rw [hT] at hlen
        simp only at hlen
        have b3 := hI.dl
        have b4 := hI.len
        have hl8 : (ods (I.take D)).length = D := by rw [ods_length, List.length_take]; exact Nat.min_eq_left b3
        refine app_slrs (M := ods l) (hX8.mv3 o8 (by simp only; omega) fun i hi h3 => by simp only at hi; try simp (maxSteps := 500000) (disch := omega) only [go_sem, Int.reduceEq, Int.reduceLT, Int.reduceLE, Int.reduceToNat, Nat.reduceLT, Nat.reduceEqDiff, Nat.reduceAdd, Nat.reduceLeDiff, Nat.reduceSub, Nat.reduceMul, ↓reduceIte, reduceCtorEq, wrap_id, w_ite_ne, w_ite_lt, Nat.sub_zero, Nat.sub_self]) (by rw [hl8, ods_length]; omega) (by rw [hl8, ods_length]; omega) fun C τ1 hC hK1 => ?_
        have a0 := hK1.2.1 0 (by simp only; omega) (o8 0 (by omega))
        have a1 := hK1.2.1 1 (by simp only; omega) (o8 1 (by omega))
        have a2 := hK1.2.1 2 (by simp only; omega) (o8 2 (by omega))
        have am := hK1.2.1 m (by simp only; omega) (hX8.oth (Nat.le_refl _))
        try simp (maxSteps := 500000) (disch := omega) only [go_sem, Int.reduceEq, Int.reduceLT, Int.reduceLE, Int.reduceToNat, Nat.reduceLT, Nat.reduceEqDiff, Nat.reduceAdd, Nat.reduceLeDiff, Nat.reduceSub, Nat.reduceMul, ↓reduceIte, reduceCtorEq, wrap_id, w_ite_ne, w_ite_lt, Nat.sub_zero, Nat.sub_self, hs, hu] at a0
        try simp (maxSteps := 500000) (disch := omega) only [go_sem, Int.reduceEq, Int.reduceLT, Int.reduceLE, Int.reduceToNat, Nat.reduceLT, Nat.reduceEqDiff, Nat.reduceAdd, Nat.reduceLeDiff, Nat.reduceSub, Nat.reduceMul, ↓reduceIte, reduceCtorEq, wrap_id, w_ite_ne, w_ite_lt, Nat.sub_zero, Nat.sub_self, hs, hu] at a1
        try simp (maxSteps := 500000) (disch := omega) only [go_sem, Int.reduceEq, Int.reduceLT, Int.reduceLE, Int.reduceToNat, Nat.reduceLT, Nat.reduceEqDiff, Nat.reduceAdd, Nat.reduceLeDiff, Nat.reduceSub, Nat.reduceMul, ↓reduceIte, reduceCtorEq, wrap_id, w_ite_ne, w_ite_lt, Nat.sub_zero, Nat.sub_self, hs, hu] at a2
        try simp (maxSteps := 500000) (disch := omega) only [go_sem, Int.reduceEq, Int.reduceLT, Int.reduceLE, Int.reduceToNat, Nat.reduceLT, Nat.reduceEqDiff, Nat.reduceAdd, Nat.reduceLeDiff, Nat.reduceSub, Nat.reduceMul, ↓reduceIte, reduceCtorEq, wrap_id, w_ite_ne, w_ite_lt, Nat.sub_zero, Nat.sub_self, hs, hu] at am
        have q6 := (hX6.mv3 (τ := ⟨_, m + 1, c + 1⟩) o6 (by simp only; omega) fun i hi h3 => by simp only at hi; try simp (maxSteps := 500000) (disch := omega) only [go_sem, Int.reduceEq, Int.reduceLT, Int.reduceLE, Int.reduceToNat, Nat.reduceLT, Nat.reduceEqDiff, Nat.reduceAdd, Nat.reduceLeDiff, Nat.reduceSub, Nat.reduceMul, ↓reduceIte, reduceCtorEq, wrap_id, w_ite_ne, w_ite_lt, Nat.sub_zero, Nat.sub_self]).dj d68.symm hK1
        have q7 := (hX7k.mv3 (τ := ⟨_, m + 1, c + 1⟩) o7 (by simp only; omega) fun i hi h3 => by simp only at hi; try simp (maxSteps := 500000) (disch := omega) only [go_sem, Int.reduceEq, Int.reduceLT, Int.reduceLE, Int.reduceToNat, Nat.reduceLT, Nat.reduceEqDiff, Nat.reduceAdd, Nat.reduceLeDiff, Nat.reduceSub, Nat.reduceMul, ↓reduceIte, reduceCtorEq, wrap_id, w_ite_ne, w_ite_lt, Nat.sub_zero, Nat.sub_self]).dj d78.symm hK1
        have e68 := (d68.symm.kp (hX6.mv3 (τ := ⟨_, m + 1, c + 1⟩) o6 (by simp only; omega) fun i hi h3 => by simp only at hi; try simp (maxSteps := 500000) (disch := omega) only [go_sem, Int.reduceEq, Int.reduceLT, Int.reduceLE, Int.reduceToNat, Nat.reduceLT, Nat.reduceEqDiff, Nat.reduceAdd, Nat.reduceLeDiff, Nat.reduceSub, Nat.reduceMul, ↓reduceIte, reduceCtorEq, wrap_id, w_ite_ne, w_ite_lt, Nat.sub_zero, Nat.sub_self]) hK1).symm
        have e78 := (d78.symm.kp (hX7k.mv3 (τ := ⟨_, m + 1, c + 1⟩) o7 (by simp only; omega) fun i hi h3 => by simp only at hi; try simp (maxSteps := 500000) (disch := omega) only [go_sem, Int.reduceEq, Int.reduceLT, Int.reduceLE, Int.reduceToNat, Nat.reduceLT, Nat.reduceEqDiff, Nat.reduceAdd, Nat.reduceLeDiff, Nat.reduceSub, Nat.reduceMul, ↓reduceIte, reduceCtorEq, wrap_id, w_ite_ne, w_ite_lt, Nat.sub_zero, Nat.sub_self]) hK1).symm
        have oC : ∀ i, i < 3 → Oth C i := fun i hi => hK1.2.2 i (by simp only; omega) (o8 i hi)
        have hn1 := hK1.1
        clear hK1
        simp only at hn1
        obtain ⟨obw, mw, cw⟩ := τ1
        simp only at a0 a1 a2 am hn1
        rw [show ods (I.take D) ++ ods l = ods (I.take D') by rw [hTk]; simp [ods]] at hC
        try simp (maxSteps := 500000) (disch := omega) only [go_sem, Int.reduceEq, Int.reduceLT, Int.reduceLE, Int.reduceToNat, Nat.reduceLT, Nat.reduceEqDiff, Nat.reduceAdd, Nat.reduceLeDiff, Nat.reduceSub, Nat.reduceMul, ↓reduceIte, reduceCtorEq, wrap_id, w_ite_ne, w_ite_lt, Nat.sub_zero, Nat.sub_self, a0, a1, a2, am, h6, h7, h8]
        refine lenC_st (fun σ' => LnS t 29 31 σ' X6 (.sl id7 g7 4 0 I.length) C I s u' D' ∧ 3 ≤ σ'.n) ?_ ?_
        · refine ⟨⟨⟨at3, by try simp (maxSteps := 500000) (disch := omega) only [go_sem, Int.reduceEq, Int.reduceLT, Int.reduceLE, Int.reduceToNat, Nat.reduceLT, Nat.reduceEqDiff, Nat.reduceAdd, Nat.reduceLeDiff, Nat.reduceSub, Nat.reduceMul, ↓reduceIte, reduceCtorEq, wrap_id, w_ite_ne, w_ite_lt, Nat.sub_zero, Nat.sub_self]; exact a0⟩, ⟨Y, hY, by try simp (maxSteps := 500000) (disch := omega) only [go_sem, Int.reduceEq, Int.reduceLT, Int.reduceLE, Int.reduceToNat, Nat.reduceLT, Nat.reduceEqDiff, Nat.reduceAdd, Nat.reduceLeDiff, Nat.reduceSub, Nat.reduceMul, ↓reduceIte, reduceCtorEq, wrap_id, w_ite_ne, w_ite_lt, Nat.sub_zero, Nat.sub_self]; exact a1⟩, ⟨_, .inl rfl, by try simp (maxSteps := 500000) (disch := omega) only [go_sem, Int.reduceEq, Int.reduceLT, Int.reduceLE, Int.reduceToNat, Nat.reduceLT, Nat.reduceEqDiff, Nat.reduceAdd, Nat.reduceLeDiff, Nat.reduceSub, Nat.reduceMul, ↓reduceIte, reduceCtorEq, wrap_id, w_ite_ne, w_ite_lt, Nat.sub_zero, Nat.sub_self]⟩, q6.mv3 o6 (by simp only; omega) ?_, q7.mv3 o7 (by simp only; omega) ?_, hC.mv3 oC (by simp only; omega) ?_, o6, o7, oC, d67, e68, e78⟩, by simp only; omega⟩
          all_goals
            intro i hi h3
            try simp (maxSteps := 500000) (disch := omega) only [go_sem, Int.reduceEq, Int.reduceLT, Int.reduceLE, Int.reduceToNat, Nat.reduceLT, Nat.reduceEqDiff, Nat.reduceAdd, Nat.reduceLeDiff, Nat.reduceSub, Nat.reduceMul, ↓reduceIte, reduceCtorEq, wrap_id, w_ite_ne, w_ite_lt, Nat.sub_zero, Nat.sub_self]
        · rintro ⟨obz, mz, cz⟩ ⟨hLS, hmz⟩
          have hLS0 := hLS
          obtain ⟨⟨atz, hdz⟩, ⟨Yz, hYz, hsz⟩, ⟨Zz, hZz, huz⟩, hz6, hz7, hz8, _⟩ := hLS
          simp only at hdz hsz huz hmz
          have hDl := hLI.dl
          have hIl := hLI.len
          have hl8 : (ods (I.take D')).length = D' := by rw [ods_length, List.length_take]; exact Nat.min_eq_left hDl
          refine (ER.of_slr hz8).len ?_
          try simp (maxSteps := 500000) (disch := omega) only [go_sem, Int.reduceEq, Int.reduceLT, Int.reduceLE, Int.reduceToNat, Nat.reduceLT, Nat.reduceEqDiff, Nat.reduceAdd, Nat.reduceLeDiff, Nat.reduceSub, Nat.reduceMul, ↓reduceIte, reduceCtorEq, wrap_id, w_ite_ne, w_ite_lt, Nat.sub_zero, Nat.sub_self, hl8, h6, h7, h8]
          refine (ER.of_slr hz6).len ?_
          try simp (maxSteps := 500000) (disch := omega) only [go_sem, Int.reduceEq, Int.reduceLT, Int.reduceLE, Int.reduceToNat, Nat.reduceLT, Nat.reduceEqDiff, Nat.reduceAdd, Nat.reduceLeDiff, Nat.reduceSub, Nat.reduceMul, ↓reduceIte, reduceCtorEq, wrap_id, w_ite_ne, w_ite_lt, Nat.sub_zero, Nat.sub_self, ods_length, h6, h7, h8]
          refine gd_fd rfl (fun h => absurd h (by omega)) (fun _ => ?_)
          try simp (maxSteps := 500000) (disch := omega) only [go_sem, Int.reduceEq, Int.reduceLT, Int.reduceLE, Int.reduceToNat, Nat.reduceLT, Nat.reduceEqDiff, Nat.reduceAdd, Nat.reduceLeDiff, Nat.reduceSub, Nat.reduceMul, ↓reduceIte, reduceCtorEq, wrap_id, w_ite_ne, w_ite_lt, Nat.sub_zero, Nat.sub_self, h6, h7, h8]
          refine (ER.of_slr hz8).len ?_
          try simp (maxSteps := 500000) (disch := omega) only [go_sem, Int.reduceEq, Int.reduceLT, Int.reduceLE, Int.reduceToNat, Nat.reduceLT, Nat.reduceEqDiff, Nat.reduceAdd, Nat.reduceLeDiff, Nat.reduceSub, Nat.reduceMul, ↓reduceIte, reduceCtorEq, wrap_id, w_ite_ne, w_ite_lt, Nat.sub_zero, Nat.sub_self, hl8, h6, h7, h8]
          refine (ER.of_slr hz6).take rfl (by rw [ods_length]; omega) fun E hE hoE => ?_
          try simp (maxSteps := 500000) (disch := omega) only [go_sem, Int.reduceEq, Int.reduceLT, Int.reduceLE, Int.reduceToNat, Nat.reduceLT, Nat.reduceEqDiff, Nat.reduceAdd, Nat.reduceLeDiff, Nat.reduceSub, Nat.reduceMul, ↓reduceIte, reduceCtorEq, wrap_id, w_ite_ne, w_ite_lt, Nat.sub_zero, Nat.sub_self, h6, h7, h8]
          refine call_lent (ok_ref27_SameOrders (I.take D') (I.take D') (by rw [List.length_take]; omega)) (.cons ((ER.of_slr hz8).pub' (ods_pur _) (ods_ok _)) (.cons ?_ .nil)) rfl ?_
          · have := hE.pub' (fun x hx => ods_pur _ x (List.mem_of_mem_take hx)) (fun x hx => ods_ok _ x (List.mem_of_mem_take hx))
            rw [show (ods (I)).take D' = ods ((I).take D') by simp [ods]] at this
            exact this
          try simp (maxSteps := 500000) (disch := omega) only [go_sem, Int.reduceEq, Int.reduceLT, Int.reduceLE, Int.reduceToNat, Nat.reduceLT, Nat.reduceEqDiff, Nat.reduceAdd, Nat.reduceLeDiff, Nat.reduceSub, Nat.reduceMul, ↓reduceIte, reduceCtorEq, wrap_id, w_ite_ne, w_ite_lt, Nat.sub_zero, Nat.sub_self, decide_true, huz, h6, h7, h8]
          refine (ER.of_slr hz8).len ?_
          try simp (maxSteps := 500000) (disch := omega) only [go_sem, Int.reduceEq, Int.reduceLT, Int.reduceLE, Int.reduceToNat, Nat.reduceLT, Nat.reduceEqDiff, Nat.reduceAdd, Nat.reduceLeDiff, Nat.reduceSub, Nat.reduceMul, ↓reduceIte, reduceCtorEq, wrap_id, w_ite_ne, w_ite_lt, Nat.sub_zero, Nat.sub_self, hl8, hLI.ud, decide_true, h10]
          refine up_nextG mz hk60 (by omega) ⟨(by first | ((try simp (maxSteps := 1000000) only [go_sem, Int.reduceEq, Int.reduceLT, Int.reduceLE, Int.reduceToNat, Nat.reduceLT, Nat.reduceEqDiff, Nat.reduceAdd, Nat.reduceLeDiff, Nat.reduceSub, Nat.reduceMul, ↓reduceIte, reduceCtorEq, w_app_nl]); done) | ((try simp (maxSteps := 1000000) only [go_sem, Int.reduceEq, Int.reduceLT, Int.reduceLE, Int.reduceToNat, Nat.reduceLT, Nat.reduceEqDiff, Nat.reduceAdd, Nat.reduceLeDiff, Nat.reduceSub, Nat.reduceMul, ↓reduceIte, reduceCtorEq, w_app_nl]); rfl) | ((try simp (maxSteps := 1000000) (disch := omega) only [go_sem, Int.reduceEq, Int.reduceLT, Int.reduceLE, Int.reduceToNat, Nat.reduceLT, Nat.reduceEqDiff, Nat.reduceAdd, Nat.reduceLeDiff, Nat.reduceSub, Nat.reduceMul, ↓reduceIte, reduceCtorEq, w_app_nl, wrap_id, w_ite_ne, w_ite_lt]); rfl) | (simp (maxSteps := 1000000) (disch := omega) only [go_sem, Int.reduceEq, Int.reduceLT, Int.reduceLE, Int.reduceToNat, Nat.reduceLT, Nat.reduceEqDiff, Nat.reduceAdd, Nat.reduceLeDiff, Nat.reduceSub, Nat.reduceMul, ↓reduceIte, reduceCtorEq, w_app_nl, wrap_id, w_ite_ne, w_ite_lt]; done)), I, s, u', D', D', by try simp (maxSteps := 500000) (disch := omega) only [go_sem, Int.reduceEq, Int.reduceLT, Int.reduceLE, Int.reduceToNat, Nat.reduceLT, Nat.reduceEqDiff, Nat.reduceAdd, Nat.reduceLeDiff, Nat.reduceSub, Nat.reduceMul, ↓reduceIte, reduceCtorEq, wrap_id, w_ite_ne, w_ite_lt, Nat.sub_zero, Nat.sub_self, h9], by omega, hLI, ?_⟩
          try simp (maxSteps := 500000) (disch := omega) only [go_sem, Int.reduceEq, Int.reduceLT, Int.reduceLE, Int.reduceToNat, Nat.reduceLT, Nat.reduceEqDiff, Nat.reduceAdd, Nat.reduceLeDiff, Nat.reduceSub, Nat.reduceMul, ↓reduceIte, reduceCtorEq, wrap_id, w_ite_ne, w_ite_lt, Nat.sub_zero, Nat.sub_self, h6, h7, h8]
          exact hLS0.trunc hmz
          
      · try simp (maxSteps := 500000) (disch := omega) only [go_sem, Int.reduceEq, Int.reduceLT, Int.reduceLE, Int.reduceToNat, Nat.reduceLT, Nat.reduceEqDiff, Nat.reduceAdd, Nat.reduceLeDiff, Nat.reduceSub, Nat.reduceMul, ↓reduceIte, reduceCtorEq, wrap_id, w_ite_ne, w_ite_lt, Nat.sub_zero, Nat.sub_self, h7]
        refine hX7.len' ?_
        try simp (maxSteps := 500000) (disch := omega) only [go_sem, Int.reduceEq, Int.reduceLT, Int.reduceLE, Int.reduceToNat, Nat.reduceLT, Nat.reduceEqDiff, Nat.reduceAdd, Nat.reduceLeDiff, Nat.reduceSub, Nat.reduceMul, ↓reduceIte, reduceCtorEq, wrap_id, w_ite_ne, w_ite_lt, Nat.sub_zero, Nat.sub_self, ods_length]
        refine cond_d (fun g3 => ?_) (fun g3 => ?_)
        rotate_left
        · try simp (maxSteps := 500000) (disch := omega) only [go_sem, Int.reduceEq, Int.reduceLT, Int.reduceLE, Int.reduceToNat, Nat.reduceLT, Nat.reduceEqDiff, Nat.reduceAdd, Nat.reduceLeDiff, Nat.reduceSub, Nat.reduceMul, ↓reduceIte, reduceCtorEq, wrap_id, w_ite_ne, w_ite_lt, Nat.sub_zero, Nat.sub_self, h6, h7, h8]
          have hLI := hI
          refine lenC_st (fun σ' => LnS t 29 31 σ' X6 X7 X8 I s u D ∧ 3 ≤ σ'.n) ?_ ?_
          · refine ⟨⟨⟨at2, by try simp (maxSteps := 500000) (disch := omega) only [go_sem, Int.reduceEq, Int.reduceLT, Int.reduceLE, Int.reduceToNat, Nat.reduceLT, Nat.reduceEqDiff, Nat.reduceAdd, Nat.reduceLeDiff, Nat.reduceSub, Nat.reduceMul, ↓reduceIte, reduceCtorEq, wrap_id, w_ite_ne, w_ite_lt, Nat.sub_zero, Nat.sub_self]⟩, ⟨Y, hY, by try simp (maxSteps := 500000) (disch := omega) only [go_sem, Int.reduceEq, Int.reduceLT, Int.reduceLE, Int.reduceToNat, Nat.reduceLT, Nat.reduceEqDiff, Nat.reduceAdd, Nat.reduceLeDiff, Nat.reduceSub, Nat.reduceMul, ↓reduceIte, reduceCtorEq, wrap_id, w_ite_ne, w_ite_lt, Nat.sub_zero, Nat.sub_self, hs]⟩, ⟨Z, hZ, by try simp (maxSteps := 500000) (disch := omega) only [go_sem, Int.reduceEq, Int.reduceLT, Int.reduceLE, Int.reduceToNat, Nat.reduceLT, Nat.reduceEqDiff, Nat.reduceAdd, Nat.reduceLeDiff, Nat.reduceSub, Nat.reduceMul, ↓reduceIte, reduceCtorEq, wrap_id, w_ite_ne, w_ite_lt, Nat.sub_zero, Nat.sub_self, hu]⟩, hX6.mv3 o6 (by simp only; omega) ?_, hX7.mv3 o7 (by simp only; omega) ?_, hX8.mv3 o8 (by simp only; omega) ?_, o6, o7, o8, d67, d68, d78⟩, by simp only; omega⟩
            all_goals
              intro i hi h3
              simp only at hi
              try simp (maxSteps := 500000) (disch := omega) only [go_sem, Int.reduceEq, Int.reduceLT, Int.reduceLE, Int.reduceToNat, Nat.reduceLT, Nat.reduceEqDiff, Nat.reduceAdd, Nat.reduceLeDiff, Nat.reduceSub, Nat.reduceMul, ↓reduceIte, reduceCtorEq, wrap_id, w_ite_ne, w_ite_lt, Nat.sub_zero, Nat.sub_self]
          · rintro ⟨obz, mz, cz⟩ ⟨hLS, hmz⟩
            have hLS0 := hLS
            obtain ⟨⟨atz, hdz⟩, ⟨Yz, hYz, hsz⟩, ⟨Zz, hZz, huz⟩, hz6, hz7, hz8, _⟩ := hLS
            simp only at hdz hsz huz hmz
            have hDl := hLI.dl
            have hIl := hLI.len
            have hl8 : (ods (I.take D)).length = D := by rw [ods_length, List.length_take]; exact Nat.min_eq_left hDl
            refine (ER.of_slr hz8).len ?_
            try simp (maxSteps := 500000) (disch := omega) only [go_sem, Int.reduceEq, Int.reduceLT, Int.reduceLE, Int.reduceToNat, Nat.reduceLT, Nat.reduceEqDiff, Nat.reduceAdd, Nat.reduceLeDiff, Nat.reduceSub, Nat.reduceMul, ↓reduceIte, reduceCtorEq, wrap_id, w_ite_ne, w_ite_lt, Nat.sub_zero, Nat.sub_self, hl8, h6, h7, h8]
            refine (ER.of_slr hz6).len ?_
            try simp (maxSteps := 500000) (disch := omega) only [go_sem, Int.reduceEq, Int.reduceLT, Int.reduceLE, Int.reduceToNat, Nat.reduceLT, Nat.reduceEqDiff, Nat.reduceAdd, Nat.reduceLeDiff, Nat.reduceSub, Nat.reduceMul, ↓reduceIte, reduceCtorEq, wrap_id, w_ite_ne, w_ite_lt, Nat.sub_zero, Nat.sub_self, ods_length, h6, h7, h8]
            refine gd_fd rfl (fun h => absurd h (by omega)) (fun _ => ?_)
            try simp (maxSteps := 500000) (disch := omega) only [go_sem, Int.reduceEq, Int.reduceLT, Int.reduceLE, Int.reduceToNat, Nat.reduceLT, Nat.reduceEqDiff, Nat.reduceAdd, Nat.reduceLeDiff, Nat.reduceSub, Nat.reduceMul, ↓reduceIte, reduceCtorEq, wrap_id, w_ite_ne, w_ite_lt, Nat.sub_zero, Nat.sub_self, h6, h7, h8]
            refine (ER.of_slr hz8).len ?_
            try simp (maxSteps := 500000) (disch := omega) only [go_sem, Int.reduceEq, Int.reduceLT, Int.reduceLE, Int.reduceToNat, Nat.reduceLT, Nat.reduceEqDiff, Nat.reduceAdd, Nat.reduceLeDiff, Nat.reduceSub, Nat.reduceMul, ↓reduceIte, reduceCtorEq, wrap_id, w_ite_ne, w_ite_lt, Nat.sub_zero, Nat.sub_self, hl8, h6, h7, h8]
            refine (ER.of_slr hz6).take rfl (by rw [ods_length]; omega) fun E hE hoE => ?_
            try simp (maxSteps := 500000) (disch := omega) only [go_sem, Int.reduceEq, Int.reduceLT, Int.reduceLE, Int.reduceToNat, Nat.reduceLT, Nat.reduceEqDiff, Nat.reduceAdd, Nat.reduceLeDiff, Nat.reduceSub, Nat.reduceMul, ↓reduceIte, reduceCtorEq, wrap_id, w_ite_ne, w_ite_lt, Nat.sub_zero, Nat.sub_self, h6, h7, h8]
            refine call_lent (ok_ref27_SameOrders (I.take D) (I.take D) (by rw [List.length_take]; omega)) (.cons ((ER.of_slr hz8).pub' (ods_pur _) (ods_ok _)) (.cons ?_ .nil)) rfl ?_
            · have := hE.pub' (fun x hx => ods_pur _ x (List.mem_of_mem_take hx)) (fun x hx => ods_ok _ x (List.mem_of_mem_take hx))
              rw [show (ods (I)).take D = ods ((I).take D) by simp [ods]] at this
              exact this
            try simp (maxSteps := 500000) (disch := omega) only [go_sem, Int.reduceEq, Int.reduceLT, Int.reduceLE, Int.reduceToNat, Nat.reduceLT, Nat.reduceEqDiff, Nat.reduceAdd, Nat.reduceLeDiff, Nat.reduceSub, Nat.reduceMul, ↓reduceIte, reduceCtorEq, wrap_id, w_ite_ne, w_ite_lt, Nat.sub_zero, Nat.sub_self, decide_true, huz, h6, h7, h8]
            refine (ER.of_slr hz8).len ?_
            try simp (maxSteps := 500000) (disch := omega) only [go_sem, Int.reduceEq, Int.reduceLT, Int.reduceLE, Int.reduceToNat, Nat.reduceLT, Nat.reduceEqDiff, Nat.reduceAdd, Nat.reduceLeDiff, Nat.reduceSub, Nat.reduceMul, ↓reduceIte, reduceCtorEq, wrap_id, w_ite_ne, w_ite_lt, Nat.sub_zero, Nat.sub_self, hl8, hLI.ud, decide_true, h10]
            refine up_nextG mz hk60 (by omega) ⟨(by first | ((try simp (maxSteps := 1000000) only [go_sem, Int.reduceEq, Int.reduceLT, Int.reduceLE, Int.reduceToNat, Nat.reduceLT, Nat.reduceEqDiff, Nat.reduceAdd, Nat.reduceLeDiff, Nat.reduceSub, Nat.reduceMul, ↓reduceIte, reduceCtorEq, w_app_nl]); done) | ((try simp (maxSteps := 1000000) only [go_sem, Int.reduceEq, Int.reduceLT, Int.reduceLE, Int.reduceToNat, Nat.reduceLT, Nat.reduceEqDiff, Nat.reduceAdd, Nat.reduceLeDiff, Nat.reduceSub, Nat.reduceMul, ↓reduceIte, reduceCtorEq, w_app_nl]); rfl) | ((try simp (maxSteps := 1000000) (disch := omega) only [go_sem, Int.reduceEq, Int.reduceLT, Int.reduceLE, Int.reduceToNat, Nat.reduceLT, Nat.reduceEqDiff, Nat.reduceAdd, Nat.reduceLeDiff, Nat.reduceSub, Nat.reduceMul, ↓reduceIte, reduceCtorEq, w_app_nl, wrap_id, w_ite_ne, w_ite_lt]); rfl) | (simp (maxSteps := 1000000) (disch := omega) only [go_sem, Int.reduceEq, Int.reduceLT, Int.reduceLE, Int.reduceToNat, Nat.reduceLT, Nat.reduceEqDiff, Nat.reduceAdd, Nat.reduceLeDiff, Nat.reduceSub, Nat.reduceMul, ↓reduceIte, reduceCtorEq, w_app_nl, wrap_id, w_ite_ne, w_ite_lt]; done)), I, s, u, D, cf, by try simp (maxSteps := 500000) (disch := omega) only [go_sem, Int.reduceEq, Int.reduceLT, Int.reduceLE, Int.reduceToNat, Nat.reduceLT, Nat.reduceEqDiff, Nat.reduceAdd, Nat.reduceLeDiff, Nat.reduceSub, Nat.reduceMul, ↓reduceIte, reduceCtorEq, wrap_id, w_ite_ne, w_ite_lt, Nat.sub_zero, Nat.sub_self, h9], by omega, hLI, ?_⟩
            try simp (maxSteps := 500000) (disch := omega) only [go_sem, Int.reduceEq, Int.reduceLT, Int.reduceLE, Int.reduceToNat, Nat.reduceLT, Nat.reduceEqDiff, Nat.reduceAdd, Nat.reduceLeDiff, Nat.reduceSub, Nat.reduceMul, ↓reduceIte, reduceCtorEq, wrap_id, w_ite_ne, w_ite_lt, Nat.sub_zero, Nat.sub_self, h6, h7, h8]
            exact hLS0.trunc hmz
            
        try simp (maxSteps := 500000) (disch := omega) only [go_sem, Int.reduceEq, Int.reduceLT, Int.reduceLE, Int.reduceToNat, Nat.reduceLT, Nat.reduceEqDiff, Nat.reduceAdd, Nat.reduceLeDiff, Nat.reduceSub, Nat.reduceMul, ↓reduceIte, reduceCtorEq, wrap_id, w_ite_ne, w_ite_lt, Nat.sub_zero, Nat.sub_self, h7, hu]
        refine hX7.len' ?_
        try simp (maxSteps := 500000) (disch := omega) only [go_sem, Int.reduceEq, Int.reduceLT, Int.reduceLE, Int.reduceToNat, Nat.reduceLT, Nat.reduceEqDiff, Nat.reduceAdd, Nat.reduceLeDiff, Nat.reduceSub, Nat.reduceMul, ↓reduceIte, reduceCtorEq, wrap_id, w_ite_ne, w_ite_lt, Nat.sub_zero, Nat.sub_self, ods_length, hu, Z1, Z2, Z3]
        refine call_hc (ok_mk_Deck_Next _ 0 0 ty_Deck true t at2 I.length (by try simp (maxSteps := 500000) (disch := omega) only [go_sem, Int.reduceEq, Int.reduceLT, Int.reduceLE, Int.reduceToNat, Nat.reduceLT, Nat.reduceEqDiff, Nat.reduceAdd, Nat.reduceLeDiff, Nat.reduceSub, Nat.reduceMul, ↓reduceIte, reduceCtorEq, wrap_id, w_ite_ne, w_ite_lt, Nat.sub_zero, Nat.sub_self]) (by have := hI.len; omega) hlt) ?_
        have hx4 := deckR_bd t at2 I.length
        generalize deckR t at2 I.length = dr at *
        obtain ⟨x4, at3⟩ := dr
        simp only at hx4
        have hx5 : x4.toNat < I.length := by omega
        have hg : I[x4.toNat]? = some I[x4.toNat] := List.getElem?_eq_getElem hx5
        generalize I[x4.toNat] = y at *
        have hgy : (ods I)[x4.toNat]? = some (odv y) := by rw [ods_get, hg]; rfl
        obtain ⟨u', l, D', hT, hLI, hTk, hDD, _⟩ := hI.take (List.mem_of_getElem? hg)
        have hc1 := ok_orders_Take u y (by have := (snOk_l hI.ok.1).2.2.1; omega)
        rw [hT] at hc1
        simp only at hc1
        have hX7k := hX7
        rcases hX7 with ⟨_, h⟩ | ⟨id7, g7, rfl, i7, q7⟩
        · have : I = [] := by simpa [ods] using h
          rw [this] at hx5; simp at hx5
        rw [ods_length] at h7 hX7k o7 d67 d78
        simp only at i7 q7
        have j0 : ¬ id7 = 0 := (o7 0 (by omega)).ne
        have j1 : ¬ id7 = 1 := (o7 1 (by omega)).ne
        have j2 : ¬ id7 = 2 := (o7 2 (by omega)).ne
        try simp (maxSteps := 500000) (disch := omega) only [go_sem, Int.reduceEq, Int.reduceLT, Int.reduceLE, Int.reduceToNat, Nat.reduceLT, Nat.reduceEqDiff, Nat.reduceAdd, Nat.reduceLeDiff, Nat.reduceSub, Nat.reduceMul, ↓reduceIte, reduceCtorEq, wrap_id, w_ite_ne, w_ite_lt, Nat.sub_zero, Nat.sub_self, h7, q7, hgy, hu, odv, ods_length]
        refine ⟨by omega, by omega, ?_⟩
        refine call_pc (pc_nl hc1 (.cons (hZ.nlr _) (NlRs.refl _))) (by simp [Zp, go_sem, odv]) ?_
        try simp (maxSteps := 500000) (disch := omega) only [go_sem, Int.reduceEq, Int.reduceLT, Int.reduceLE, Int.reduceToNat, Nat.reduceLT, Nat.reduceEqDiff, Nat.reduceAdd, Nat.reduceLeDiff, Nat.reduceSub, Nat.reduceMul, ↓reduceIte, reduceCtorEq, wrap_id, w_ite_ne, w_ite_lt, Nat.sub_zero, Nat.sub_self, snv, odv, hu, h8, decide_true]
        have hlen := (takT_len u y).2
        rw [hT] at hlen
        simp only at hlen
        have b3 := hI.dl
        have b4 := hI.len
        have hl8 : (ods (I.take D)).length = D := by rw [ods_length, List.length_take]; exact Nat.min_eq_left b3
        refine app_slrs (M := ods l) (hX8.mv3 o8 (by simp only; omega) fun i hi h3 => by simp only at hi; try simp (maxSteps := 500000) (disch := omega) only [go_sem, Int.reduceEq, Int.reduceLT, Int.reduceLE, Int.reduceToNat, Nat.reduceLT, Nat.reduceEqDiff, Nat.reduceAdd, Nat.reduceLeDiff, Nat.reduceSub, Nat.reduceMul, ↓reduceIte, reduceCtorEq, wrap_id, w_ite_ne, w_ite_lt, Nat.sub_zero, Nat.sub_self]) (by rw [hl8, ods_length]; omega) (by rw [hl8, ods_length]; omega) fun C τ1 hC hK1 => ?_
        have a0 := hK1.2.1 0 (by simp only; omega) (o8 0 (by omega))
        have a1 := hK1.2.1 1 (by simp only; omega) (o8 1 (by omega))
        have a2 := hK1.2.1 2 (by simp only; omega) (o8 2 (by omega))
        have am := hK1.2.1 m (by simp only; omega) (hX8.oth (Nat.le_refl _))
        try simp (maxSteps := 500000) (disch := omega) only [go_sem, Int.reduceEq, Int.reduceLT, Int.reduceLE, Int.reduceToNat, Nat.reduceLT, Nat.reduceEqDiff, Nat.reduceAdd, Nat.reduceLeDiff, Nat.reduceSub, Nat.reduceMul, ↓reduceIte, reduceCtorEq, wrap_id, w_ite_ne, w_ite_lt, Nat.sub_zero, Nat.sub_self, hs, hu] at a0
        try simp (maxSteps := 500000) (disch := omega) only [go_sem, Int.reduceEq, Int.reduceLT, Int.reduceLE, Int.reduceToNat, Nat.reduceLT, Nat.reduceEqDiff, Nat.reduceAdd, Nat.reduceLeDiff, Nat.reduceSub, Nat.reduceMul, ↓reduceIte, reduceCtorEq, wrap_id, w_ite_ne, w_ite_lt, Nat.sub_zero, Nat.sub_self, hs, hu] at a1
        try simp (maxSteps := 500000) (disch := omega) only [go_sem, Int.reduceEq, Int.reduceLT, Int.reduceLE, Int.reduceToNat, Nat.reduceLT, Nat.reduceEqDiff, Nat.reduceAdd, Nat.reduceLeDiff, Nat.reduceSub, Nat.reduceMul, ↓reduceIte, reduceCtorEq, wrap_id, w_ite_ne, w_ite_lt, Nat.sub_zero, Nat.sub_self, hs, hu] at a2
        try simp (maxSteps := 500000) (disch := omega) only [go_sem, Int.reduceEq, Int.reduceLT, Int.reduceLE, Int.reduceToNat, Nat.reduceLT, Nat.reduceEqDiff, Nat.reduceAdd, Nat.reduceLeDiff, Nat.reduceSub, Nat.reduceMul, ↓reduceIte, reduceCtorEq, wrap_id, w_ite_ne, w_ite_lt, Nat.sub_zero, Nat.sub_self, hs, hu] at am
        have q6 := (hX6.mv3 (τ := ⟨_, m + 1, c + 1⟩) o6 (by simp only; omega) fun i hi h3 => by simp only at hi; try simp (maxSteps := 500000) (disch := omega) only [go_sem, Int.reduceEq, Int.reduceLT, Int.reduceLE, Int.reduceToNat, Nat.reduceLT, Nat.reduceEqDiff, Nat.reduceAdd, Nat.reduceLeDiff, Nat.reduceSub, Nat.reduceMul, ↓reduceIte, reduceCtorEq, wrap_id, w_ite_ne, w_ite_lt, Nat.sub_zero, Nat.sub_self]).dj d68.symm hK1
        have q7 := (hX7k.mv3 (τ := ⟨_, m + 1, c + 1⟩) o7 (by simp only; omega) fun i hi h3 => by simp only at hi; try simp (maxSteps := 500000) (disch := omega) only [go_sem, Int.reduceEq, Int.reduceLT, Int.reduceLE, Int.reduceToNat, Nat.reduceLT, Nat.reduceEqDiff, Nat.reduceAdd, Nat.reduceLeDiff, Nat.reduceSub, Nat.reduceMul, ↓reduceIte, reduceCtorEq, wrap_id, w_ite_ne, w_ite_lt, Nat.sub_zero, Nat.sub_self]).dj d78.symm hK1
        have e68 := (d68.symm.kp (hX6.mv3 (τ := ⟨_, m + 1, c + 1⟩) o6 (by simp only; omega) fun i hi h3 => by simp only at hi; try simp (maxSteps := 500000) (disch := omega) only [go_sem, Int.reduceEq, Int.reduceLT, Int.reduceLE, Int.reduceToNat, Nat.reduceLT, Nat.reduceEqDiff, Nat.reduceAdd, Nat.reduceLeDiff, Nat.reduceSub, Nat.reduceMul, ↓reduceIte, reduceCtorEq, wrap_id, w_ite_ne, w_ite_lt, Nat.sub_zero, Nat.sub_self]) hK1).symm
        have e78 := (d78.symm.kp (hX7k.mv3 (τ := ⟨_, m + 1, c + 1⟩) o7 (by simp only; omega) fun i hi h3 => by simp only at hi; try simp (maxSteps := 500000) (disch := omega) only [go_sem, Int.reduceEq, Int.reduceLT, Int.reduceLE, Int.reduceToNat, Nat.reduceLT, Nat.reduceEqDiff, Nat.reduceAdd, Nat.reduceLeDiff, Nat.reduceSub, Nat.reduceMul, ↓reduceIte, reduceCtorEq, wrap_id, w_ite_ne, w_ite_lt, Nat.sub_zero, Nat.sub_self]) hK1).symm
        have oC : ∀ i, i < 3 → Oth C i := fun i hi => hK1.2.2 i (by simp only; omega) (o8 i hi)
        have hn1 := hK1.1
        clear hK1
        simp only at hn1
        obtain ⟨obw, mw, cw⟩ := τ1
        simp only at a0 a1 a2 am hn1
        rw [show ods (I.take D) ++ ods l = ods (I.take D') by rw [hTk]; simp [ods]] at hC
        try simp (maxSteps := 500000) (disch := omega) only [go_sem, Int.reduceEq, Int.reduceLT, Int.reduceLE, Int.reduceToNat, Nat.reduceLT, Nat.reduceEqDiff, Nat.reduceAdd, Nat.reduceLeDiff, Nat.reduceSub, Nat.reduceMul, ↓reduceIte, reduceCtorEq, wrap_id, w_ite_ne, w_ite_lt, Nat.sub_zero, Nat.sub_self, a0, a1, a2, am, h6, h7, h8]
        refine lenC_st (fun σ' => LnS t 29 31 σ' X6 (.sl id7 g7 4 0 I.length) C I s u' D' ∧ 3 ≤ σ'.n) ?_ ?_
        · refine ⟨⟨⟨at3, by try simp (maxSteps := 500000) (disch := omega) only [go_sem, Int.reduceEq, Int.reduceLT, Int.reduceLE, Int.reduceToNat, Nat.reduceLT, Nat.reduceEqDiff, Nat.reduceAdd, Nat.reduceLeDiff, Nat.reduceSub, Nat.reduceMul, ↓reduceIte, reduceCtorEq, wrap_id, w_ite_ne, w_ite_lt, Nat.sub_zero, Nat.sub_self]; exact a0⟩, ⟨Y, hY, by try simp (maxSteps := 500000) (disch := omega) only [go_sem, Int.reduceEq, Int.reduceLT, Int.reduceLE, Int.reduceToNat, Nat.reduceLT, Nat.reduceEqDiff, Nat.reduceAdd, Nat.reduceLeDiff, Nat.reduceSub, Nat.reduceMul, ↓reduceIte, reduceCtorEq, wrap_id, w_ite_ne, w_ite_lt, Nat.sub_zero, Nat.sub_self]; exact a1⟩, ⟨_, .inl rfl, by try simp (maxSteps := 500000) (disch := omega) only [go_sem, Int.reduceEq, Int.reduceLT, Int.reduceLE, Int.reduceToNat, Nat.reduceLT, Nat.reduceEqDiff, Nat.reduceAdd, Nat.reduceLeDiff, Nat.reduceSub, Nat.reduceMul, ↓reduceIte, reduceCtorEq, wrap_id, w_ite_ne, w_ite_lt, Nat.sub_zero, Nat.sub_self]⟩, q6.mv3 o6 (by simp only; omega) ?_, q7.mv3 o7 (by simp only; omega) ?_, hC.mv3 oC (by simp only; omega) ?_, o6, o7, oC, d67, e68, e78⟩, by simp only; omega⟩
          all_goals
            intro i hi h3
            try simp (maxSteps := 500000) (disch := omega) only [go_sem, Int.reduceEq, Int.reduceLT, Int.reduceLE, Int.reduceToNat, Nat.reduceLT, Nat.reduceEqDiff, Nat.reduceAdd, Nat.reduceLeDiff, Nat.reduceSub, Nat.reduceMul, ↓reduceIte, reduceCtorEq, wrap_id, w_ite_ne, w_ite_lt, Nat.sub_zero, Nat.sub_self]
        · rintro ⟨obz, mz, cz⟩ ⟨hLS, hmz⟩
          have hLS0 := hLS
          obtain ⟨⟨atz, hdz⟩, ⟨Yz, hYz, hsz⟩, ⟨Zz, hZz, huz⟩, hz6, hz7, hz8, _⟩ := hLS
          simp only at hdz hsz huz hmz
          have hDl := hLI.dl
          have hIl := hLI.len
          have hl8 : (ods (I.take D')).length = D' := by rw [ods_length, List.length_take]; exact Nat.min_eq_left hDl
          refine (ER.of_slr hz8).len ?_
          try simp (maxSteps := 500000) (disch := omega) only [go_sem, Int.reduceEq, Int.reduceLT, Int.reduceLE, Int.reduceToNat, Nat.reduceLT, Nat.reduceEqDiff, Nat.reduceAdd, Nat.reduceLeDiff, Nat.reduceSub, Nat.reduceMul, ↓reduceIte, reduceCtorEq, wrap_id, w_ite_ne, w_ite_lt, Nat.sub_zero, Nat.sub_self, hl8, h6, h7, h8]
          refine (ER.of_slr hz6).len ?_
          try simp (maxSteps := 500000) (disch := omega) only [go_sem, Int.reduceEq, Int.reduceLT, Int.reduceLE, Int.reduceToNat, Nat.reduceLT, Nat.reduceEqDiff, Nat.reduceAdd, Nat.reduceLeDiff, Nat.reduceSub, Nat.reduceMul, ↓reduceIte, reduceCtorEq, wrap_id, w_ite_ne, w_ite_lt, Nat.sub_zero, Nat.sub_self, ods_length, h6, h7, h8]
          refine gd_fd rfl (fun h => absurd h (by omega)) (fun _ => ?_)
          try simp (maxSteps := 500000) (disch := omega) only [go_sem, Int.reduceEq, Int.reduceLT, Int.reduceLE, Int.reduceToNat, Nat.reduceLT, Nat.reduceEqDiff, Nat.reduceAdd, Nat.reduceLeDiff, Nat.reduceSub, Nat.reduceMul, ↓reduceIte, reduceCtorEq, wrap_id, w_ite_ne, w_ite_lt, Nat.sub_zero, Nat.sub_self, h6, h7, h8]
          refine (ER.of_slr hz8).len ?_
          try simp (maxSteps := 500000) (disch := omega) only [go_sem, Int.reduceEq, Int.reduceLT, Int.reduceLE, Int.reduceToNat, Nat.reduceLT, Nat.reduceEqDiff, Nat.reduceAdd, Nat.reduceLeDiff, Nat.reduceSub, Nat.reduceMul, ↓reduceIte, reduceCtorEq, wrap_id, w_ite_ne, w_ite_lt, Nat.sub_zero, Nat.sub_self, hl8, h6, h7, h8]
          refine (ER.of_slr hz6).take rfl (by rw [ods_length]; omega) fun E hE hoE => ?_
          try simp (maxSteps := 500000) (disch := omega) only [go_sem, Int.reduceEq, Int.reduceLT, Int.reduceLE, Int.reduceToNat, Nat.reduceLT, Nat.reduceEqDiff, Nat.reduceAdd, Nat.reduceLeDiff, Nat.reduceSub, Nat.reduceMul, ↓reduceIte, reduceCtorEq, wrap_id, w_ite_ne, w_ite_lt, Nat.sub_zero, Nat.sub_self, h6, h7, h8]
          refine call_lent (ok_ref27_SameOrders (I.take D') (I.take D') (by rw [List.length_take]; omega)) (.cons ((ER.of_slr hz8).pub' (ods_pur _) (ods_ok _)) (.cons ?_ .nil)) rfl ?_
          · have := hE.pub' (fun x hx => ods_pur _ x (List.mem_of_mem_take hx)) (fun x hx => ods_ok _ x (List.mem_of_mem_take hx))
            rw [show (ods (I)).take D' = ods ((I).take D') by simp [ods]] at this
            exact this
          try simp (maxSteps := 500000) (disch := omega) only [go_sem, Int.reduceEq, Int.reduceLT, Int.reduceLE, Int.reduceToNat, Nat.reduceLT, Nat.reduceEqDiff, Nat.reduceAdd, Nat.reduceLeDiff, Nat.reduceSub, Nat.reduceMul, ↓reduceIte, reduceCtorEq, wrap_id, w_ite_ne, w_ite_lt, Nat.sub_zero, Nat.sub_self, decide_true, huz, h6, h7, h8]
          refine (ER.of_slr hz8).len ?_
          try simp (maxSteps := 500000) (disch := omega) only [go_sem, Int.reduceEq, Int.reduceLT, Int.reduceLE, Int.reduceToNat, Nat.reduceLT, Nat.reduceEqDiff, Nat.reduceAdd, Nat.reduceLeDiff, Nat.reduceSub, Nat.reduceMul, ↓reduceIte, reduceCtorEq, wrap_id, w_ite_ne, w_ite_lt, Nat.sub_zero, Nat.sub_self, hl8, hLI.ud, decide_true, h10]
          refine up_nextG mz hk60 (by omega) ⟨(by first | ((try simp (maxSteps := 1000000) only [go_sem, Int.reduceEq, Int.reduceLT, Int.reduceLE, Int.reduceToNat, Nat.reduceLT, Nat.reduceEqDiff, Nat.reduceAdd, Nat.reduceLeDiff, Nat.reduceSub, Nat.reduceMul, ↓reduceIte, reduceCtorEq, w_app_nl]); done) | ((try simp (maxSteps := 1000000) only [go_sem, Int.reduceEq, Int.reduceLT, Int.reduceLE, Int.reduceToNat, Nat.reduceLT, Nat.reduceEqDiff, Nat.reduceAdd, Nat.reduceLeDiff, Nat.reduceSub, Nat.reduceMul, ↓reduceIte, reduceCtorEq, w_app_nl]); rfl) | ((try simp (maxSteps := 1000000) (disch := omega) only [go_sem, Int.reduceEq, Int.reduceLT, Int.reduceLE, Int.reduceToNat, Nat.reduceLT, Nat.reduceEqDiff, Nat.reduceAdd, Nat.reduceLeDiff, Nat.reduceSub, Nat.reduceMul, ↓reduceIte, reduceCtorEq, w_app_nl, wrap_id, w_ite_ne, w_ite_lt]); rfl) | (simp (maxSteps := 1000000) (disch := omega) only [go_sem, Int.reduceEq, Int.reduceLT, Int.reduceLE, Int.reduceToNat, Nat.reduceLT, Nat.reduceEqDiff, Nat.reduceAdd, Nat.reduceLeDiff, Nat.reduceSub, Nat.reduceMul, ↓reduceIte, reduceCtorEq, w_app_nl, wrap_id, w_ite_ne, w_ite_lt]; done)), I, s, u', D', D', by try simp (maxSteps := 500000) (disch := omega) only [go_sem, Int.reduceEq, Int.reduceLT, Int.reduceLE, Int.reduceToNat, Nat.reduceLT, Nat.reduceEqDiff, Nat.reduceAdd, Nat.reduceLeDiff, Nat.reduceSub, Nat.reduceMul, ↓reduceIte, reduceCtorEq, wrap_id, w_ite_ne, w_ite_lt, Nat.sub_zero, Nat.sub_self, h9], by omega, hLI, ?_⟩
          try simp (maxSteps := 500000) (disch := omega) only [go_sem, Int.reduceEq, Int.reduceLT, Int.reduceLE, Int.reduceToNat, Nat.reduceLT, Nat.reduceEqDiff, Nat.reduceAdd, Nat.reduceLeDiff, Nat.reduceSub, Nat.reduceMul, ↓reduceIte, reduceCtorEq, wrap_id, w_ite_ne, w_ite_lt, Nat.sub_zero, Nat.sub_self, h6, h7, h8]
          exact hLS0.trunc hmz
          
      · try simp (maxSteps := 500000) (disch := omega) only [go_sem, Int.reduceEq, Int.reduceLT, Int.reduceLE, Int.reduceToNat, Nat.reduceLT, Nat.reduceEqDiff, Nat.reduceAdd, Nat.reduceLeDiff, Nat.reduceSub, Nat.reduceMul, ↓reduceIte, reduceCtorEq, wrap_id, w_ite_ne, w_ite_lt, Nat.sub_zero, Nat.sub_self]
        have b1 := hI.c0
        have b2 := hI.c1
        have b3 := hI.dl
        have b4 := hI.len
        try simp (maxSteps := 500000) (disch := omega) only [go_sem, Int.reduceEq, Int.reduceLT, Int.reduceLE, Int.reduceToNat, Nat.reduceLT, Nat.reduceEqDiff, Nat.reduceAdd, Nat.reduceLeDiff, Nat.reduceSub, Nat.reduceMul, ↓reduceIte, reduceCtorEq, wrap_id, w_ite_ne, w_ite_lt, Nat.sub_zero, Nat.sub_self, h9, hs, hu]
        refine call_hc (ok_mk_Deck_Next _ 0 0 ty_Deck true t at2 (cf + 1) (by try simp (maxSteps := 500000) (disch := omega) only [go_sem, Int.reduceEq, Int.reduceLT, Int.reduceLE, Int.reduceToNat, Nat.reduceLT, Nat.reduceEqDiff, Nat.reduceAdd, Nat.reduceLeDiff, Nat.reduceSub, Nat.reduceMul, ↓reduceIte, reduceCtorEq, wrap_id, w_ite_ne, w_ite_lt, Nat.sub_zero, Nat.sub_self]) (by omega) hlt) ?_
        generalize deckR t at2 (cf + 1) = dr at *
        obtain ⟨x4, at3⟩ := dr
        try simp (maxSteps := 500000) (disch := omega) only [go_sem, Int.reduceEq, Int.reduceLT, Int.reduceLE, Int.reduceToNat, Nat.reduceLT, Nat.reduceEqDiff, Nat.reduceAdd, Nat.reduceLeDiff, Nat.reduceSub, Nat.reduceMul, ↓reduceIte, reduceCtorEq, wrap_id, w_ite_ne, w_ite_lt, Nat.sub_zero, Nat.sub_self, h9, hs, hu]
        refine call_pc (ok_mk_Mod x4 (cf + 1) (by omega) (by omega)) (by simp [go_sem]) ?_
        have m1 := Int.emod_nonneg x4 (show cf + 1 ≠ 0 by omega)
        have m2 := Int.emod_lt_of_pos x4 (show 0 < cf + 1 by omega)
        generalize x4 % (cf + 1) = x5 at *
        obtain ⟨s', hT, hLI, _⟩ := hI.conf (x := x5) m1 (by omega)
        have hc1 := ok_orders_Confirm s x5 (by have := (sdOk_l hI.ok.2.1).2.2.1; omega)
        rw [hT] at hc1
        simp only at hc1
        try simp (maxSteps := 500000) (disch := omega) only [go_sem, Int.reduceEq, Int.reduceLT, Int.reduceLE, Int.reduceToNat, Nat.reduceLT, Nat.reduceEqDiff, Nat.reduceAdd, Nat.reduceLeDiff, Nat.reduceSub, Nat.reduceMul, ↓reduceIte, reduceCtorEq, wrap_id, w_ite_ne, w_ite_lt, Nat.sub_zero, Nat.sub_self, h9, hs, hu]
        refine call_pc (pc_nl hc1 (.cons (hY.nlr _) (NlRs.refl _))) (by simp [Yp, go_sem]) ?_
        try simp (maxSteps := 500000) (disch := omega) only [go_sem, Int.reduceEq, Int.reduceLT, Int.reduceLE, Int.reduceToNat, Nat.reduceLT, Nat.reduceEqDiff, Nat.reduceAdd, Nat.reduceLeDiff, Nat.reduceSub, Nat.reduceMul, ↓reduceIte, reduceCtorEq, wrap_id, w_ite_ne, w_ite_lt, Nat.sub_zero, Nat.sub_self, sdv, hs, hu, decide_true]
        rw [h8]
        refine lenC_st (fun σ' => LnS t 29 31 σ' X6 X7 X8 I s' u D ∧ 3 ≤ σ'.n) ?_ ?_
        · refine ⟨⟨⟨at3, by try simp (maxSteps := 500000) (disch := omega) only [go_sem, Int.reduceEq, Int.reduceLT, Int.reduceLE, Int.reduceToNat, Nat.reduceLT, Nat.reduceEqDiff, Nat.reduceAdd, Nat.reduceLeDiff, Nat.reduceSub, Nat.reduceMul, ↓reduceIte, reduceCtorEq, wrap_id, w_ite_ne, w_ite_lt, Nat.sub_zero, Nat.sub_self]⟩, ⟨_, .inl rfl, by try simp (maxSteps := 500000) (disch := omega) only [go_sem, Int.reduceEq, Int.reduceLT, Int.reduceLE, Int.reduceToNat, Nat.reduceLT, Nat.reduceEqDiff, Nat.reduceAdd, Nat.reduceLeDiff, Nat.reduceSub, Nat.reduceMul, ↓reduceIte, reduceCtorEq, wrap_id, w_ite_ne, w_ite_lt, Nat.sub_zero, Nat.sub_self]⟩, ⟨Z, hZ, by try simp (maxSteps := 500000) (disch := omega) only [go_sem, Int.reduceEq, Int.reduceLT, Int.reduceLE, Int.reduceToNat, Nat.reduceLT, Nat.reduceEqDiff, Nat.reduceAdd, Nat.reduceLeDiff, Nat.reduceSub, Nat.reduceMul, ↓reduceIte, reduceCtorEq, wrap_id, w_ite_ne, w_ite_lt, Nat.sub_zero, Nat.sub_self]; exact hu⟩, hX6.mv3 o6 (by simp only; omega) ?_, hX7.mv3 o7 (by simp only; omega) ?_, hX8.mv3 o8 (by simp only; omega) ?_, o6, o7, o8, d67, d68, d78⟩, by simp only; omega⟩
          all_goals
            intro i hi h3
            simp only at hi
            try simp (maxSteps := 500000) (disch := omega) only [go_sem, Int.reduceEq, Int.reduceLT, Int.reduceLE, Int.reduceToNat, Nat.reduceLT, Nat.reduceEqDiff, Nat.reduceAdd, Nat.reduceLeDiff, Nat.reduceSub, Nat.reduceMul, ↓reduceIte, reduceCtorEq, wrap_id, w_ite_ne, w_ite_lt, Nat.sub_zero, Nat.sub_self]
        · rintro ⟨obz, mz, cz⟩ ⟨hLS, hmz⟩
          have hLS0 := hLS
          obtain ⟨⟨atz, hdz⟩, ⟨Yz, hYz, hsz⟩, ⟨Zz, hZz, huz⟩, hz6, hz7, hz8, _⟩ := hLS
          simp only at hdz hsz huz hmz
          have hDl := hLI.dl
          have hIl := hLI.len
          have hl8 : (ods (I.take D)).length = D := by rw [ods_length, List.length_take]; exact Nat.min_eq_left hDl
          refine (ER.of_slr hz8).len ?_
          try simp (maxSteps := 500000) (disch := omega) only [go_sem, Int.reduceEq, Int.reduceLT, Int.reduceLE, Int.reduceToNat, Nat.reduceLT, Nat.reduceEqDiff, Nat.reduceAdd, Nat.reduceLeDiff, Nat.reduceSub, Nat.reduceMul, ↓reduceIte, reduceCtorEq, wrap_id, w_ite_ne, w_ite_lt, Nat.sub_zero, Nat.sub_self, hl8, h6, h7, h8]
          refine (ER.of_slr hz6).len ?_
          try simp (maxSteps := 500000) (disch := omega) only [go_sem, Int.reduceEq, Int.reduceLT, Int.reduceLE, Int.reduceToNat, Nat.reduceLT, Nat.reduceEqDiff, Nat.reduceAdd, Nat.reduceLeDiff, Nat.reduceSub, Nat.reduceMul, ↓reduceIte, reduceCtorEq, wrap_id, w_ite_ne, w_ite_lt, Nat.sub_zero, Nat.sub_self, ods_length, h6, h7, h8]
          refine gd_fd rfl (fun h => absurd h (by omega)) (fun _ => ?_)
          try simp (maxSteps := 500000) (disch := omega) only [go_sem, Int.reduceEq, Int.reduceLT, Int.reduceLE, Int.reduceToNat, Nat.reduceLT, Nat.reduceEqDiff, Nat.reduceAdd, Nat.reduceLeDiff, Nat.reduceSub, Nat.reduceMul, ↓reduceIte, reduceCtorEq, wrap_id, w_ite_ne, w_ite_lt, Nat.sub_zero, Nat.sub_self, h6, h7, h8]
          refine (ER.of_slr hz8).len ?_
          try simp (maxSteps := 500000) (disch := omega) only [go_sem, Int.reduceEq, Int.reduceLT, Int.reduceLE, Int.reduceToNat, Nat.reduceLT, Nat.reduceEqDiff, Nat.reduceAdd, Nat.reduceLeDiff, Nat.reduceSub, Nat.reduceMul, ↓reduceIte, reduceCtorEq, wrap_id, w_ite_ne, w_ite_lt, Nat.sub_zero, Nat.sub_self, hl8, h6, h7, h8]
          refine (ER.of_slr hz6).take rfl (by rw [ods_length]; omega) fun E hE hoE => ?_
          try simp (maxSteps := 500000) (disch := omega) only [go_sem, Int.reduceEq, Int.reduceLT, Int.reduceLE, Int.reduceToNat, Nat.reduceLT, Nat.reduceEqDiff, Nat.reduceAdd, Nat.reduceLeDiff, Nat.reduceSub, Nat.reduceMul, ↓reduceIte, reduceCtorEq, wrap_id, w_ite_ne, w_ite_lt, Nat.sub_zero, Nat.sub_self, h6, h7, h8]
          refine call_lent (ok_ref27_SameOrders (I.take D) (I.take D) (by rw [List.length_take]; omega)) (.cons ((ER.of_slr hz8).pub' (ods_pur _) (ods_ok _)) (.cons ?_ .nil)) rfl ?_
          · have := hE.pub' (fun x hx => ods_pur _ x (List.mem_of_mem_take hx)) (fun x hx => ods_ok _ x (List.mem_of_mem_take hx))
            rw [show (ods (I)).take D = ods ((I).take D) by simp [ods]] at this
            exact this
          try simp (maxSteps := 500000) (disch := omega) only [go_sem, Int.reduceEq, Int.reduceLT, Int.reduceLE, Int.reduceToNat, Nat.reduceLT, Nat.reduceEqDiff, Nat.reduceAdd, Nat.reduceLeDiff, Nat.reduceSub, Nat.reduceMul, ↓reduceIte, reduceCtorEq, wrap_id, w_ite_ne, w_ite_lt, Nat.sub_zero, Nat.sub_self, decide_true, huz, h6, h7, h8]
          refine (ER.of_slr hz8).len ?_
          try simp (maxSteps := 500000) (disch := omega) only [go_sem, Int.reduceEq, Int.reduceLT, Int.reduceLE, Int.reduceToNat, Nat.reduceLT, Nat.reduceEqDiff, Nat.reduceAdd, Nat.reduceLeDiff, Nat.reduceSub, Nat.reduceMul, ↓reduceIte, reduceCtorEq, wrap_id, w_ite_ne, w_ite_lt, Nat.sub_zero, Nat.sub_self, hl8, hLI.ud, decide_true, h10]
          refine up_nextG mz hk60 (by omega) ⟨(by first | ((try simp (maxSteps := 1000000) only [go_sem, Int.reduceEq, Int.reduceLT, Int.reduceLE, Int.reduceToNat, Nat.reduceLT, Nat.reduceEqDiff, Nat.reduceAdd, Nat.reduceLeDiff, Nat.reduceSub, Nat.reduceMul, ↓reduceIte, reduceCtorEq, w_app_nl]); done) | ((try simp (maxSteps := 1000000) only [go_sem, Int.reduceEq, Int.reduceLT, Int.reduceLE, Int.reduceToNat, Nat.reduceLT, Nat.reduceEqDiff, Nat.reduceAdd, Nat.reduceLeDiff, Nat.reduceSub, Nat.reduceMul, ↓reduceIte, reduceCtorEq, w_app_nl]); rfl) | ((try simp (maxSteps := 1000000) (disch := omega) only [go_sem, Int.reduceEq, Int.reduceLT, Int.reduceLE, Int.reduceToNat, Nat.reduceLT, Nat.reduceEqDiff, Nat.reduceAdd, Nat.reduceLeDiff, Nat.reduceSub, Nat.reduceMul, ↓reduceIte, reduceCtorEq, w_app_nl, wrap_id, w_ite_ne, w_ite_lt]); rfl) | (simp (maxSteps := 1000000) (disch := omega) only [go_sem, Int.reduceEq, Int.reduceLT, Int.reduceLE, Int.reduceToNat, Nat.reduceLT, Nat.reduceEqDiff, Nat.reduceAdd, Nat.reduceLeDiff, Nat.reduceSub, Nat.reduceMul, ↓reduceIte, reduceCtorEq, w_app_nl, wrap_id, w_ite_ne, w_ite_lt]; done)), I, s', u, D, cf, by try simp (maxSteps := 500000) (disch := omega) only [go_sem, Int.reduceEq, Int.reduceLT, Int.reduceLE, Int.reduceToNat, Nat.reduceLT, Nat.reduceEqDiff, Nat.reduceAdd, Nat.reduceLeDiff, Nat.reduceSub, Nat.reduceMul, ↓reduceIte, reduceCtorEq, wrap_id, w_ite_ne, w_ite_lt, Nat.sub_zero, Nat.sub_self, h9], by omega, hLI, ?_⟩
          try simp (maxSteps := 500000) (disch := omega) only [go_sem, Int.reduceEq, Int.reduceLT, Int.reduceLE, Int.reduceToNat, Nat.reduceLT, Nat.reduceEqDiff, Nat.reduceAdd, Nat.reduceLeDiff, Nat.reduceSub, Nat.reduceMul, ↓reduceIte, reduceCtorEq, wrap_id, w_ite_ne, w_ite_lt, Nat.sub_zero, Nat.sub_self, h6, h7, h8]
          exact hLS0.trunc hmz
          
  · rintro fe ⟨ob, m, c⟩ ⟨hm, I, s, u, D, cf, hI, hS⟩
    obtain ⟨X6, h6⟩ : ∃ X, fe 6 = X := ⟨_, rfl⟩
    obtain ⟨X7, h7⟩ : ∃ X, fe 7 = X := ⟨_, rfl⟩
    obtain ⟨X8, h8⟩ : ∃ X, fe 8 = X := ⟨_, rfl⟩
    simp (maxSteps := 1000000) only [go_sem, Int.reduceEq, Int.reduceLT, Int.reduceLE, Int.reduceToNat, Nat.reduceLT, Nat.reduceEqDiff, Nat.reduceAdd, Nat.reduceLeDiff, Nat.reduceSub, Nat.reduceMul, ↓reduceIte, reduceCtorEq, w_app_nl] at hm hS
    rw [h6, h7, h8] at hS
    have hS0 := hS
    obtain ⟨_, ⟨Y, hY, hs⟩, _⟩ := hS
    simp only at hs
    obtain ⟨Y1, Y2, Y3⟩ := hY.one
    obtain ⟨c0, hc0, hsl⟩ := hI.sl
    have b4 := hI.len
    have hll : s.l.length ≤ 60 := by rw [hsl, List.length_drop]; omega
    have hsL : s.l.length = I.length - c0 := by rw [hsl, List.length_drop]
    try simp (maxSteps := 500000) (disch := omega) only [go_sem, Int.reduceEq, Int.reduceLT, Int.reduceLE, Int.reduceToNat, Nat.reduceLT, Nat.reduceEqDiff, Nat.reduceAdd, Nat.reduceLeDiff, Nat.reduceSub, Nat.reduceMul, ↓reduceIte, reduceCtorEq, wrap_id, w_ite_ne, w_ite_lt, Nat.sub_zero, Nat.sub_self, hs, h6, h7, h8]
    refine hY.len ?_
    try simp (maxSteps := 500000) (disch := omega) only [go_sem, Int.reduceEq, Int.reduceLT, Int.reduceLE, Int.reduceToNat, Nat.reduceLT, Nat.reduceEqDiff, Nat.reduceAdd, Nat.reduceLeDiff, Nat.reduceSub, Nat.reduceMul, ↓reduceIte, reduceCtorEq, wrap_id, w_ite_ne, w_ite_lt, Nat.sub_zero, Nat.sub_self, hs, h6, h7, h8]
    refine awp_upG [2, 8, 9, 22, 23, 24, 25, 26, 149, 150, 151, 152, 153, 154, 155, 156, 157, 158, 159, 160, 161, 162, 163, 164, 165, 166, 167, 168] (by kernel_rfl) s.l.length (fun k e σ => e 149 = .int .i64 k ∧ ∃ u D cf, LnI I s u D cf ∧ LnS t 29 31 σ X6 X7 (e 8) I s u D ∧ c0 + k ≤ D) ?_ ?_
    · refine ⟨(by first | ((try simp (maxSteps := 1000000) only [go_sem, Int.reduceEq, Int.reduceLT, Int.reduceLE, Int.reduceToNat, Nat.reduceLT, Nat.reduceEqDiff, Nat.reduceAdd, Nat.reduceLeDiff, Nat.reduceSub, Nat.reduceMul, ↓reduceIte, reduceCtorEq, w_app_nl]); done) | ((try simp (maxSteps := 1000000) only [go_sem, Int.reduceEq, Int.reduceLT, Int.reduceLE, Int.reduceToNat, Nat.reduceLT, Nat.reduceEqDiff, Nat.reduceAdd, Nat.reduceLeDiff, Nat.reduceSub, Nat.reduceMul, ↓reduceIte, reduceCtorEq, w_app_nl]); rfl) | ((try simp (maxSteps := 1000000) (disch := omega) only [go_sem, Int.reduceEq, Int.reduceLT, Int.reduceLE, Int.reduceToNat, Nat.reduceLT, Nat.reduceEqDiff, Nat.reduceAdd, Nat.reduceLeDiff, Nat.reduceSub, Nat.reduceMul, ↓reduceIte, reduceCtorEq, w_app_nl, wrap_id, w_ite_ne, w_ite_lt]); rfl) | (simp (maxSteps := 1000000) (disch := omega) only [go_sem, Int.reduceEq, Int.reduceLT, Int.reduceLE, Int.reduceToNat, Nat.reduceLT, Nat.reduceEqDiff, Nat.reduceAdd, Nat.reduceLeDiff, Nat.reduceSub, Nat.reduceMul, ↓reduceIte, reduceCtorEq, w_app_nl, wrap_id, w_ite_ne, w_ite_lt]; done)), u, D, cf, hI, ?_, hc0⟩
      try simp (maxSteps := 500000) (disch := omega) only [go_sem, Int.reduceEq, Int.reduceLT, Int.reduceLE, Int.reduceToNat, Nat.reduceLT, Nat.reduceEqDiff, Nat.reduceAdd, Nat.reduceLeDiff, Nat.reduceSub, Nat.reduceMul, ↓reduceIte, reduceCtorEq, wrap_id, w_ite_ne, w_ite_lt, Nat.sub_zero, Nat.sub_self, h8]
      exact hS0
    · rintro k fe' ob m' c' hk hm' ⟨h149, u, D, cf, hI, hS, hcD⟩
      have hm3 : 3 ≤ m' := Nat.le_trans hm hm'
      have hmm : m ≤ m' := hm'
      obtain ⟨X8', h8'⟩ : ∃ X, fe' 8 = X := ⟨_, rfl⟩
      simp (maxSteps := 1000000) only [go_sem, Int.reduceEq, Int.reduceLT, Int.reduceLE, Int.reduceToNat, Nat.reduceLT, Nat.reduceEqDiff, Nat.reduceAdd, Nat.reduceLeDiff, Nat.reduceSub, Nat.reduceMul, ↓reduceIte, reduceCtorEq, w_app_nl] at h149 hS
      rw [h8'] at hS
      have hS0 := hS
      obtain ⟨⟨at1, hd⟩, ⟨Yz, hYz, hs⟩, ⟨Z, hZ, hu⟩, hX6, hX7, hX8, o6, o7, o8, d67, d68, d78⟩ := hS
      simp only at hd hs hu
      have hsz := hs
      have Zp := hZ.pur1
      obtain ⟨Z1, Z2, Z3⟩ := hZ.one
      try simp (maxSteps := 500000) (disch := omega) only [go_sem, Int.reduceEq, Int.reduceLT, Int.reduceLE, Int.reduceToNat, Nat.reduceLT, Nat.reduceEqDiff, Nat.reduceAdd, Nat.reduceLeDiff, Nat.reduceSub, Nat.reduceMul, ↓reduceIte, reduceCtorEq, wrap_id, w_ite_ne, w_ite_lt, Nat.sub_zero, Nat.sub_self, h149]
      refine cond_d (fun hlt2 => ?_) (fun hge => ?_)
      · have hkl : k < s.l.length := by omega
        have hg : s.l[k]? = some s.l[k] := List.getElem?_eq_getElem hkl
        generalize s.l[k] = y at *
        have hg2 : I[c0 + k]? = some y := by rw [hsl, List.getElem?_drop] at hg; exact hg
        have hyn := (hI.hI _ y hg2).2
        obtain ⟨u', l, D', hT, hLI, hTk, hDD, hDn⟩ := hI.take (List.mem_of_getElem? hg2)
        have hc1 := ok_orders_Take u y (by have := (snOk_l hI.ok.1).2.2.1; omega)
        have hlen := (takT_len u y).2
        rw [hT] at hc1 hlen
        simp only at hc1 hlen
        rcases hY with rfl | ⟨_, h⟩
        rotate_left
        · rw [h] at hkl; simp at hkl
        have hgy : (ods s.l)[k]? = some (odv y) := by rw [ods_get, hg]; rfl
        try simp (maxSteps := 500000) (disch := omega) only [go_sem, Int.reduceEq, Int.reduceLT, Int.reduceLE, Int.reduceToNat, Nat.reduceLT, Nat.reduceEqDiff, Nat.reduceAdd, Nat.reduceLeDiff, Nat.reduceSub, Nat.reduceMul, ↓reduceIte, reduceCtorEq, wrap_id, w_ite_ne, w_ite_lt, Nat.sub_zero, Nat.sub_self, h149, hgy, odv, hu, ods_length]
        refine ⟨by omega, by omega, ?_⟩
        refine call_pc (pc_nl hc1 (.cons (hZ.nlr _) (NlRs.refl _))) (by simp [Zp, go_sem, odv]) ?_
        try simp (maxSteps := 500000) (disch := omega) only [go_sem, Int.reduceEq, Int.reduceLT, Int.reduceLE, Int.reduceToNat, Nat.reduceLT, Nat.reduceEqDiff, Nat.reduceAdd, Nat.reduceLeDiff, Nat.reduceSub, Nat.reduceMul, ↓reduceIte, reduceCtorEq, wrap_id, w_ite_ne, w_ite_lt, Nat.sub_zero, Nat.sub_self, snv, odv, hu, h8', decide_true]
        have b3 := hI.dl
        have hl8 : (ods (I.take D)).length = D := by rw [ods_length, List.length_take]; exact Nat.min_eq_left b3
        refine app_slrs (M := ods l) (hX8.mv3 o8 (by simp only; omega) fun i hi h3 => by simp only at hi; try simp (maxSteps := 500000) (disch := omega) only [go_sem, Int.reduceEq, Int.reduceLT, Int.reduceLE, Int.reduceToNat, Nat.reduceLT, Nat.reduceEqDiff, Nat.reduceAdd, Nat.reduceLeDiff, Nat.reduceSub, Nat.reduceMul, ↓reduceIte, reduceCtorEq, wrap_id, w_ite_ne, w_ite_lt, Nat.sub_zero, Nat.sub_self]) (by rw [hl8, ods_length]; omega) (by rw [hl8, ods_length]; omega) fun C τ1 hC hK1 => ?_
        have a0 := hK1.2.1 0 (by simp only; omega) (o8 0 (by omega))
        have a1 := hK1.2.1 1 (by simp only; omega) (o8 1 (by omega))
        have a2 := hK1.2.1 2 (by simp only; omega) (o8 2 (by omega))
        have am := hK1.2.1 (m' + 1) (by simp only; omega) (hX8.oth (Nat.le_succ _))
        try simp (maxSteps := 500000) (disch := omega) only [go_sem, Int.reduceEq, Int.reduceLT, Int.reduceLE, Int.reduceToNat, Nat.reduceLT, Nat.reduceEqDiff, Nat.reduceAdd, Nat.reduceLeDiff, Nat.reduceSub, Nat.reduceMul, ↓reduceIte, reduceCtorEq, wrap_id, w_ite_ne, w_ite_lt, Nat.sub_zero, Nat.sub_self, hsz, hu, hd] at a0
        try simp (maxSteps := 500000) (disch := omega) only [go_sem, Int.reduceEq, Int.reduceLT, Int.reduceLE, Int.reduceToNat, Nat.reduceLT, Nat.reduceEqDiff, Nat.reduceAdd, Nat.reduceLeDiff, Nat.reduceSub, Nat.reduceMul, ↓reduceIte, reduceCtorEq, wrap_id, w_ite_ne, w_ite_lt, Nat.sub_zero, Nat.sub_self, hsz, hu] at a1
        try simp (maxSteps := 500000) (disch := omega) only [go_sem, Int.reduceEq, Int.reduceLT, Int.reduceLE, Int.reduceToNat, Nat.reduceLT, Nat.reduceEqDiff, Nat.reduceAdd, Nat.reduceLeDiff, Nat.reduceSub, Nat.reduceMul, ↓reduceIte, reduceCtorEq, wrap_id, w_ite_ne, w_ite_lt, Nat.sub_zero, Nat.sub_self, hsz, hu] at a2
        try simp (maxSteps := 500000) (disch := omega) only [go_sem, Int.reduceEq, Int.reduceLT, Int.reduceLE, Int.reduceToNat, Nat.reduceLT, Nat.reduceEqDiff, Nat.reduceAdd, Nat.reduceLeDiff, Nat.reduceSub, Nat.reduceMul, ↓reduceIte, reduceCtorEq, wrap_id, w_ite_ne, w_ite_lt, Nat.sub_zero, Nat.sub_self, hsz, hu] at am
        have q6 := (hX6.mv3 (τ := ⟨_, m' + 1 + 1, c' + 1 + 1⟩) o6 (by simp only; omega) fun i hi h3 => by simp only at hi; try simp (maxSteps := 500000) (disch := omega) only [go_sem, Int.reduceEq, Int.reduceLT, Int.reduceLE, Int.reduceToNat, Nat.reduceLT, Nat.reduceEqDiff, Nat.reduceAdd, Nat.reduceLeDiff, Nat.reduceSub, Nat.reduceMul, ↓reduceIte, reduceCtorEq, wrap_id, w_ite_ne, w_ite_lt, Nat.sub_zero, Nat.sub_self]).dj d68.symm hK1
        have q7 := (hX7.mv3 (τ := ⟨_, m' + 1 + 1, c' + 1 + 1⟩) o7 (by simp only; omega) fun i hi h3 => by simp only at hi; try simp (maxSteps := 500000) (disch := omega) only [go_sem, Int.reduceEq, Int.reduceLT, Int.reduceLE, Int.reduceToNat, Nat.reduceLT, Nat.reduceEqDiff, Nat.reduceAdd, Nat.reduceLeDiff, Nat.reduceSub, Nat.reduceMul, ↓reduceIte, reduceCtorEq, wrap_id, w_ite_ne, w_ite_lt, Nat.sub_zero, Nat.sub_self]).dj d78.symm hK1
        have e68 := (d68.symm.kp (hX6.mv3 (τ := ⟨_, m' + 1 + 1, c' + 1 + 1⟩) o6 (by simp only; omega) fun i hi h3 => by simp only at hi; try simp (maxSteps := 500000) (disch := omega) only [go_sem, Int.reduceEq, Int.reduceLT, Int.reduceLE, Int.reduceToNat, Nat.reduceLT, Nat.reduceEqDiff, Nat.reduceAdd, Nat.reduceLeDiff, Nat.reduceSub, Nat.reduceMul, ↓reduceIte, reduceCtorEq, wrap_id, w_ite_ne, w_ite_lt, Nat.sub_zero, Nat.sub_self]) hK1).symm
        have e78 := (d78.symm.kp (hX7.mv3 (τ := ⟨_, m' + 1 + 1, c' + 1 + 1⟩) o7 (by simp only; omega) fun i hi h3 => by simp only at hi; try simp (maxSteps := 500000) (disch := omega) only [go_sem, Int.reduceEq, Int.reduceLT, Int.reduceLE, Int.reduceToNat, Nat.reduceLT, Nat.reduceEqDiff, Nat.reduceAdd, Nat.reduceLeDiff, Nat.reduceSub, Nat.reduceMul, ↓reduceIte, reduceCtorEq, wrap_id, w_ite_ne, w_ite_lt, Nat.sub_zero, Nat.sub_self]) hK1).symm
        have oC : ∀ i, i < 3 → Oth C i := fun i hi => hK1.2.2 i (by simp only; omega) (o8 i hi)
        have hn1 := hK1.1
        clear hK1
        simp only at hn1
        obtain ⟨obw, mw, cw⟩ := τ1
        simp only at a0 a1 a2 am hn1
        rw [show ods (I.take D) ++ ods l = ods (I.take D') by rw [hTk]; simp [ods]] at hC
        have hLS : LnS t 29 31 ⟨upd obw 2 (some ⟨2, 2, 31, false, true, [.agg [.int .i64 u'.d, .list 4 (ods u'.l)]]⟩), mw, cw⟩ X6 X7 C I s u' D' := by
          refine ⟨⟨at1, by try simp (maxSteps := 500000) (disch := omega) only [go_sem, Int.reduceEq, Int.reduceLT, Int.reduceLE, Int.reduceToNat, Nat.reduceLT, Nat.reduceEqDiff, Nat.reduceAdd, Nat.reduceLeDiff, Nat.reduceSub, Nat.reduceMul, ↓reduceIte, reduceCtorEq, wrap_id, w_ite_ne, w_ite_lt, Nat.sub_zero, Nat.sub_self]; exact a0⟩, ⟨Yz, hYz, by try simp (maxSteps := 500000) (disch := omega) only [go_sem, Int.reduceEq, Int.reduceLT, Int.reduceLE, Int.reduceToNat, Nat.reduceLT, Nat.reduceEqDiff, Nat.reduceAdd, Nat.reduceLeDiff, Nat.reduceSub, Nat.reduceMul, ↓reduceIte, reduceCtorEq, wrap_id, w_ite_ne, w_ite_lt, Nat.sub_zero, Nat.sub_self]; exact a1⟩, ⟨_, .inl rfl, by try simp (maxSteps := 500000) (disch := omega) only [go_sem, Int.reduceEq, Int.reduceLT, Int.reduceLE, Int.reduceToNat, Nat.reduceLT, Nat.reduceEqDiff, Nat.reduceAdd, Nat.reduceLeDiff, Nat.reduceSub, Nat.reduceMul, ↓reduceIte, reduceCtorEq, wrap_id, w_ite_ne, w_ite_lt, Nat.sub_zero, Nat.sub_self]⟩, q6.mv3 o6 (by simp only; omega) ?_, q7.mv3 o7 (by simp only; omega) ?_, hC.mv3 oC (by simp only; omega) ?_, o6, o7, oC, d67, e68, e78⟩
          all_goals
            intro i hi h3
            try simp (maxSteps := 500000) (disch := omega) only [go_sem, Int.reduceEq, Int.reduceLT, Int.reduceLE, Int.reduceToNat, Nat.reduceLT, Nat.reduceEqDiff, Nat.reduceAdd, Nat.reduceLeDiff, Nat.reduceSub, Nat.reduceMul, ↓reduceIte, reduceCtorEq, wrap_id, w_ite_ne, w_ite_lt, Nat.sub_zero, Nat.sub_self]
        try simp (maxSteps := 500000) (disch := omega) only [go_sem, Int.reduceEq, Int.reduceLT, Int.reduceLE, Int.reduceToNat, Nat.reduceLT, Nat.reduceEqDiff, Nat.reduceAdd, Nat.reduceLeDiff, Nat.reduceSub, Nat.reduceMul, ↓reduceIte, reduceCtorEq, wrap_id, w_ite_ne, w_ite_lt, Nat.sub_zero, Nat.sub_self, a0, a1, a2, am, h149]
        refine up_nextG mw hkl (by omega) ⟨(by first | ((try simp (maxSteps := 1000000) only [go_sem, Int.reduceEq, Int.reduceLT, Int.reduceLE, Int.reduceToNat, Nat.reduceLT, Nat.reduceEqDiff, Nat.reduceAdd, Nat.reduceLeDiff, Nat.reduceSub, Nat.reduceMul, ↓reduceIte, reduceCtorEq, w_app_nl]); done) | ((try simp (maxSteps := 1000000) only [go_sem, Int.reduceEq, Int.reduceLT, Int.reduceLE, Int.reduceToNat, Nat.reduceLT, Nat.reduceEqDiff, Nat.reduceAdd, Nat.reduceLeDiff, Nat.reduceSub, Nat.reduceMul, ↓reduceIte, reduceCtorEq, w_app_nl]); rfl) | ((try simp (maxSteps := 1000000) (disch := omega) only [go_sem, Int.reduceEq, Int.reduceLT, Int.reduceLE, Int.reduceToNat, Nat.reduceLT, Nat.reduceEqDiff, Nat.reduceAdd, Nat.reduceLeDiff, Nat.reduceSub, Nat.reduceMul, ↓reduceIte, reduceCtorEq, w_app_nl, wrap_id, w_ite_ne, w_ite_lt]); rfl) | (simp (maxSteps := 1000000) (disch := omega) only [go_sem, Int.reduceEq, Int.reduceLT, Int.reduceLE, Int.reduceToNat, Nat.reduceLT, Nat.reduceEqDiff, Nat.reduceAdd, Nat.reduceLeDiff, Nat.reduceSub, Nat.reduceMul, ↓reduceIte, reduceCtorEq, w_app_nl, wrap_id, w_ite_ne, w_ite_lt]; done)), u', D', D', hLI, ?_, by omega⟩
        try simp (maxSteps := 500000) (disch := omega) only [go_sem, Int.reduceEq, Int.reduceLT, Int.reduceLE, Int.reduceToNat, Nat.reduceLT, Nat.reduceEqDiff, Nat.reduceAdd, Nat.reduceLeDiff, Nat.reduceSub, Nat.reduceMul, ↓reduceIte, reduceCtorEq, wrap_id, w_ite_ne, w_ite_lt, Nat.sub_zero, Nat.sub_self]
        exact hLS.trunc (by simp only; omega)
      · have b3 := hI.dl
        have hud := hI.ud
        have hD : D = I.length := by omega
        obtain ⟨s', hT, hLI, hsl0⟩ := hI.conf (x := (D : Int)) (by omega) (by omega)
        have hsl1 := hsl0 (by rw [hD])
        have hc1 := ok_orders_Confirm s (D : Int) (by omega)
        rw [hT] at hc1
        simp only at hc1
        have Yzp := hYz.pur1
        obtain ⟨W1, W2, W3⟩ := hYz.one
        try simp (maxSteps := 500000) (disch := omega) only [go_sem, Int.reduceEq, Int.reduceLT, Int.reduceLE, Int.reduceToNat, Nat.reduceLT, Nat.reduceEqDiff, Nat.reduceAdd, Nat.reduceLeDiff, Nat.reduceSub, Nat.reduceMul, ↓reduceIte, reduceCtorEq, wrap_id, w_ite_ne, w_ite_lt, Nat.sub_zero, Nat.sub_self, hs, hu, hud, W1, W2, W3]
        refine call_pc (pc_nl hc1 (.cons (hYz.nlr _) (NlRs.refl _))) (by simp [Yzp, go_sem]) ?_
        have en : ods ([] : List Od) = [] := rfl
        try simp (maxSteps := 500000) (disch := omega) only [go_sem, Int.reduceEq, Int.reduceLT, Int.reduceLE, Int.reduceToNat, Nat.reduceLT, Nat.reduceEqDiff, Nat.reduceAdd, Nat.reduceLeDiff, Nat.reduceSub, Nat.reduceMul, ↓reduceIte, reduceCtorEq, wrap_id, w_ite_ne, w_ite_lt, Nat.sub_zero, Nat.sub_self, sdv, hs, hu, hsl1, en, decide_true]
        refine call_lent (ok_ref27_SameOrders (I.take D) I (by rw [List.length_take]; omega)) (.cons (by rw [h8']; exact hX8.pub (fun i hi hno => by have j1 : ¬ i = 1 := fun e => hno (by subst e; exact o8 1 (by omega)); try simp (maxSteps := 500000) (disch := omega) only [go_sem, Int.reduceEq, Int.reduceLT, Int.reduceLE, Int.reduceToNat, Nat.reduceLT, Nat.reduceEqDiff, Nat.reduceAdd, Nat.reduceLeDiff, Nat.reduceSub, Nat.reduceMul, ↓reduceIte, reduceCtorEq, wrap_id, w_ite_ne, w_ite_lt, Nat.sub_zero, Nat.sub_self, j1]) (ods_pur _) (ods_ok _)) (.cons (hX6.pub (fun i hi hno => by have j1 : ¬ i = 1 := fun e => hno (by subst e; exact o6 1 (by omega)); try simp (maxSteps := 500000) (disch := omega) only [go_sem, Int.reduceEq, Int.reduceLT, Int.reduceLE, Int.reduceToNat, Nat.reduceLT, Nat.reduceEqDiff, Nat.reduceAdd, Nat.reduceLeDiff, Nat.reduceSub, Nat.reduceMul, ↓reduceIte, reduceCtorEq, wrap_id, w_ite_ne, w_ite_lt, Nat.sub_zero, Nat.sub_self, j1]) (ods_pur _) (ods_ok _)) .nil)) rfl ?_
        have hTI : I.take D = I := by rw [hD, List.take_length]
        try simp (maxSteps := 500000) (disch := omega) only [go_sem, Int.reduceEq, Int.reduceLT, Int.reduceLE, Int.reduceToNat, Nat.reduceLT, Nat.reduceEqDiff, Nat.reduceAdd, Nat.reduceLeDiff, Nat.reduceSub, Nat.reduceMul, ↓reduceIte, reduceCtorEq, wrap_id, w_ite_ne, w_ite_lt, Nat.sub_zero, Nat.sub_self, hTI, decide_true]
        exact Pub.of_eq rfl rfl
abbrev shOd : Sh := .struct (.fc (.int .i64) (.fc (.int .i64) (.fc (.int .i64) (.fc (.int .i64) .f0))))
theorem shOdR {c : List AV} (h : shOd.R c) : ∃ o : Od, shOd.mk1 c = odv o := by
  obtain ⟨_, _, rfl, ⟨a, rfl, _⟩, _, _, rfl, ⟨b, rfl, _⟩, _, _, rfl, ⟨x, rfl, _⟩, _, _, rfl, ⟨y, rfl, _⟩, rfl⟩ := h
  exact ⟨⟨a, b, x, y⟩, rfl⟩
theorem shOds {c : List AV} (h : (Sh.slice 4 shOd).R c) : ∃ L : List Od, c = [.list 4 (ods L)] ∧ L.length ≤ 9223372036854775807 := by
  obtain ⟨xs, rfl, hl, h⟩ := h
  obtain ⟨L, rfl, _⟩ := exists_map (f := odv) (Q := fun _ => True) fun x hx => by
    obtain ⟨cs, hr, _, rfl⟩ := h x hx
    obtain ⟨o, ho⟩ := shOdR hr
    exact ⟨o, trivial, ho⟩
  exact ⟨L, rfl, by simpa using hl⟩
abbrev shSd : Sh := .struct (.fc (.int .i64) (.fc (.slice 4 shOd) .f0))
theorem shSdR {c : List AV} (h : shSd.R c) : ∃ s : Sd, shSd.mk1 c = sdv s ∧ s.l.length ≤ 9223372036854775807 := by
  obtain ⟨_, _, rfl, ⟨a, rfl, _⟩, _, _, rfl, h2, rfl⟩ := h
  obtain ⟨L, rfl, hL⟩ := shOds h2
  exact ⟨⟨a, L⟩, rfl, hL⟩
theorem shSnR {c : List AV} (h : shSd.R c) : ∃ s : Sn, shSd.mk1 c = snv s ∧ s.l.length ≤ 9223372036854775807 := by
  obtain ⟨s, h1, h2⟩ := shSdR h
  exact ⟨⟨s.n, s.l⟩, h1, h2⟩
theorem law_law27_OrdersDoes {c0 c1 c2 c3 c4 : List AV} (s0 : (Sh.slice 1 (.int .i64)).R c0) (s1 : shSd.R c1) (s2 : shSd.R c2) (s3 : shOd.R c3) (s4 : (Sh.int .i64).R c4) :
    PC prog n_law27_OrdersDoes [(Sh.slice 1 (.int .i64)).mk1 c0, shSd.mk1 c1, shSd.mk1 c2, shOd.mk1 c3, (Sh.int .i64).mk1 c4] (.bool true) := by
  obtain ⟨l0, rfl, _, _⟩ := shInts s0
  obtain ⟨s, e1, h1⟩ := shSdR s1
  obtain ⟨u, e2, h2⟩ := shSnR s2
  obtain ⟨o, e3⟩ := shOdR s3
  obtain ⟨a4, rfl, _⟩ := s4
  rw [e1, e2, e3]
  exact ok_law27_OrdersDoes l0 s u o a4 h1 h2
theorem law_law27_OrdersLines {c0 : List AV} (s0 : (Sh.slice 1 (.int .i64)).R c0) : PC prog n_law27_OrdersLines [(Sh.slice 1 (.int .i64)).mk1 c0] (.bool true) := by
  obtain ⟨l0, rfl, _, _⟩ := shInts s0
  exact ok_law27_OrdersLines l0
theorem law_law27_OrdersLimits {c0 c1 : List AV} (s0 : (Sh.int .u8).R c0) (s1 : (Sh.int .u8).R c1) : PC prog n_law27_OrdersLimits [(Sh.int .u8).mk1 c0, (Sh.int .u8).mk1 c1] (.bool true) := by
  obtain ⟨a0, rfl, w0⟩ := s0
  obtain ⟨a1, rfl, w1⟩ := s1
  exact ok_law27_OrdersLimits a0 a1 (wf_u8 w0) (wf_u8 w1)
theorem law_law27_OrdersTwice {c0 c1 : List AV} (s0 : (Sh.slice 1 (.int .i64)).R c0) (s1 : (Sh.int .u8).R c1) : PC prog n_law27_OrdersTwice [(Sh.slice 1 (.int .i64)).mk1 c0, (Sh.int .u8).mk1 c1] (.bool true) := by
  obtain ⟨l0, rfl, _, _⟩ := shInts s0
  obtain ⟨a1, rfl, w1⟩ := s1
  exact ok_law27_OrdersTwice l0 a1 (wf_u8 w1)
end Go.Proofs.Try
