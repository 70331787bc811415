/-
  OWN WORK, put together by tools/asm.py: what functions do.
-/
import Derived.Test.YtmdcopjppbpepaaLibB
set_option linter.unusedSimpArgs false
set_option linter.unusedVariables false
set_option maxRecDepth 100000
set_option maxHeartbeats 1000000
namespace Go.Proofs.Try
open Go.Ab Go
def upto (a b : Int) : List Int := (List.range (b - a).toNat).map fun i : Nat => a + (i : Int)
def takeR (r : Rc) (f : Fr) : Rc × List Rd × Int :=
  if rcOk r then (if frOk f then (if f.s = r.s then
    (if f.n < r.n then (if f.n ∈ r.m then (⟨r.s, r.n, r.m.filter fun x => !decide (x = f.n)⟩, f.l, 0) else (⟨0, 0, []⟩, [], 46))
    else (if 256 < r.m.length + f.n - r.n then (⟨0, 0, []⟩, [], 45) else (⟨r.s, f.n + 1, r.m ++ upto r.n f.n⟩, f.l, 0)))
    else (⟨0, 0, []⟩, [], 40)) else (⟨0, 0, []⟩, [], 3)) else (⟨0, 0, []⟩, [], 50)
theorem bsI_mem (l : List Int) (x : Int) (hs : Asc l) : l[bsI l x]? = some x ↔ x ∈ l := by
  constructor
  · intro h; exact List.mem_of_getElem? h
  · intro h
    have hlt : bsI l x < l.length := List.findIdx_lt_length.2 ⟨x, h, by simp⟩
    have h3 : x ≤ l[bsI l x] := of_decide_eq_true (List.findIdx_getElem (p := fun y => decide (x ≤ y)) (w := hlt))
    obtain ⟨i, hi⟩ := List.getElem?_of_mem h
    have h4 : bsI l x ≤ i := by
      rcases Nat.lt_or_ge i (bsI l x) with h5 | h5
      · have := List.not_of_lt_findIdx h5
        rw [List.getElem?_eq_some_iff] at hi
        obtain ⟨_, rfl⟩ := hi
        simp at this
      · exact h5
    rw [List.getElem?_eq_getElem hlt]
    by_cases e : i = bsI l x
    · subst e; rw [List.getElem?_eq_getElem hlt] at hi; exact hi
    · have := hs _ i (by omega) _ x (List.getElem?_eq_getElem hlt) hi
      congr 1; omega
theorem del_filter {l : List Int} {x : Int} {i : Nat} (hs : ∀ i j : Nat, i < j → ∀ x y, l[i]? = some x → l[j]? = some y → x < y) (hi : l[i]? = some x) : l.take i ++ l.drop (i + 1) = l.filter fun y => !decide (y = x) := by
  have hil := (List.getElem?_eq_some_iff.1 hi).1
  have hsp : l = l.take i ++ x :: l.drop (i + 1) := by
    have : l.drop i = x :: l.drop (i + 1) := by rw [List.drop_eq_getElem_cons hil, (List.getElem?_eq_some_iff.1 hi).2]
    rw [← this, List.take_append_drop]
  have h3 : l.filter (fun y => !decide (y = x)) = (l.take i ++ x :: l.drop (i + 1)).filter (fun y => !decide (y = x)) := by rw [← hsp]
  rw [h3, List.filter_append, List.filter_cons]
  simp only [decide_true, Bool.not_true, Bool.false_eq_true, if_false]
  rw [List.filter_eq_self.2, List.filter_eq_self.2]
  · intro y hy
    obtain ⟨j, hj⟩ := List.getElem?_of_mem hy
    rw [List.getElem?_drop] at hj
    have := hs i _ (by omega) x y hi hj
    simp; omega
  · intro y hy
    obtain ⟨j, hj⟩ := List.getElem?_of_mem hy
    have hlt := (List.getElem?_eq_some_iff.1 hj).1
    simp at hlt
    rw [List.getElem?_take, if_pos (by omega)] at hj
    have := hs j i (by omega) y x hj hi
    simp; omega
theorem frOk_parts {f : Fr} (h : frOk f = true) : 0 ≤ f.s ∧ f.s ≤ 255 ∧ 1 ≤ f.n ∧ f.n ≤ 1073741824 ∧ f.l.length ≤ 32 := by
  simp only [frOk, inB, Bool.and_eq_true, decide_eq_true_eq] at h
  obtain ⟨⟨⟨⟨a, b⟩, c, d⟩, e⟩, _⟩ := h
  exact ⟨a, b, c, d, e⟩
theorem upto_succ (a : Int) (k : Nat) : upto a (a + (k + 1 : Nat)) = upto a (a + k) ++ [a + k] := by
  unfold upto
  rw [show (a + ((k + 1 : Nat) : Int) - a).toNat = k + 1 by omega, show (a + (k : Int) - a).toNat = k by omega, List.range_succ]
  simp
theorem upto_length (a : Int) (k : Nat) : (upto a (a + k)).length = k := by
  unfold upto; simp; omega
theorem ok_telemetry_Take (r : Rc) (f : Fr) (hl : r.m.length ≤ 1000000) (hf : f.l.length ≤ 1000000) : PC prog n_telemetry_Take [rcv r, frv f] (.tuple [rcv (takeR r f).1, .list 4 (rds (takeR r f).2.1), .int .i64 (takeR r f).2.2]) := by
  refine PC_of_body b_telemetry_Take (by simp) ?_
  simp only [c_telemetry_Take, go_sem, Int.reduceEq, Int.reduceLT, Int.reduceLE, Int.reduceToNat, Nat.reduceLT, Nat.reduceEqDiff, Nat.reduceAdd, Nat.reduceLeDiff, Nat.reduceSub, Nat.reduceMul, ↓reduceIte, reduceCtorEq, w_app_nl, rcv, frv]
  have zero : ∀ {σ : St} (e : Int), takeR r f = (⟨0, 0, []⟩, [], e) → Pub σ (.tuple [.agg [.int .i64 0, .int .i64 0, .nil], .nil, .int .i64 e]) (.tuple [rcv (takeR r f).1, .list 4 (rds (takeR r f).2.1), .int .i64 (takeR r f).2.2]) := by
    intro σ e h
    rw [h]
    exact Pub.three (Pub.agg3 (Pub.of_eq rfl rfl) (Pub.of_eq rfl rfl) (.nl 1)) (.nl 4) (Pub.of_eq rfl rfl)
  refine call_pc (ok_telemetry_Check r (by omega)) (by simp [go_sem, rcv]) ?_
  try simp (disch := omega) only [go_sem, Int.reduceEq, Int.reduceLT, Int.reduceLE, Int.reduceToNat, Nat.reduceLT, Nat.reduceEqDiff, Nat.reduceAdd, Nat.reduceLeDiff, Nat.reduceSub, Nat.reduceMul, ↓reduceIte, reduceCtorEq, wrap_id, w_ite_ne, w_ite_lt, Nat.sub_zero, Nat.sub_self]
  by_cases hok : rcOk r = true
  case neg =>
    have hok : rcOk r = false := by simpa using hok
    have he : rcE r = 50 := by simp [rcE, hok]
    try simp (disch := omega) only [go_sem, Int.reduceEq, Int.reduceLT, Int.reduceLE, Int.reduceToNat, Nat.reduceLT, Nat.reduceEqDiff, Nat.reduceAdd, Nat.reduceLeDiff, Nat.reduceSub, Nat.reduceMul, ↓reduceIte, reduceCtorEq, wrap_id, w_ite_ne, w_ite_lt, Nat.sub_zero, Nat.sub_self, he]
    exact zero 50 (by simp [takeR, hok])
  have he : rcE r = 0 := by simp [rcE, hok]
  obtain ⟨hs0, hs1, hn0, hn1, hl2, hasc⟩ := rcOk_parts hok
  have ha := ascB_Asc hasc
  try simp (disch := omega) only [go_sem, Int.reduceEq, Int.reduceLT, Int.reduceLE, Int.reduceToNat, Nat.reduceLT, Nat.reduceEqDiff, Nat.reduceAdd, Nat.reduceLeDiff, Nat.reduceSub, Nat.reduceMul, ↓reduceIte, reduceCtorEq, wrap_id, w_ite_ne, w_ite_lt, Nat.sub_zero, Nat.sub_self, he]
  refine call_pc (ok_telemetry_proper f (by omega)) (by simp [go_sem, frv]) ?_
  try simp (disch := omega) only [go_sem, Int.reduceEq, Int.reduceLT, Int.reduceLE, Int.reduceToNat, Nat.reduceLT, Nat.reduceEqDiff, Nat.reduceAdd, Nat.reduceLeDiff, Nat.reduceSub, Nat.reduceMul, ↓reduceIte, reduceCtorEq, wrap_id, w_ite_ne, w_ite_lt, Nat.sub_zero, Nat.sub_self]
  refine cond_split (fun h => ?_) (fun h => ?_) <;> try simp (disch := omega) only [go_sem, Int.reduceEq, Int.reduceLT, Int.reduceLE, Int.reduceToNat, Nat.reduceLT, Nat.reduceEqDiff, Nat.reduceAdd, Nat.reduceLeDiff, Nat.reduceSub, Nat.reduceMul, ↓reduceIte, reduceCtorEq, wrap_id, w_ite_ne, w_ite_lt, Nat.sub_zero, Nat.sub_self]
  · exact zero 3 (by simp at h; simp [takeR, hok, h])
  have hfo : frOk f = true := by simpa using h
  obtain ⟨hf1, hf2, hf3, hf4, hf5⟩ := frOk_parts hfo
  refine cond_n (fun h => ?_) (fun hst => ?_) <;> try simp (disch := omega) only [go_sem, Int.reduceEq, Int.reduceLT, Int.reduceLE, Int.reduceToNat, Nat.reduceLT, Nat.reduceEqDiff, Nat.reduceAdd, Nat.reduceLeDiff, Nat.reduceSub, Nat.reduceMul, ↓reduceIte, reduceCtorEq, wrap_id, w_ite_ne, w_ite_lt, Nat.sub_zero, Nat.sub_self]
  · exact zero 40 (by simp [takeR, hok, hfo, h])
  refine call_pc (ok_slices_BinarySearch__int r.m f.n (by omega) ha) (by simp [go_sem]) ?_
  have hb := bsI_le r.m f.n
  have hbm := bsI_mem r.m f.n ha
  try simp (disch := omega) only [go_sem, Int.reduceEq, Int.reduceLT, Int.reduceLE, Int.reduceToNat, Nat.reduceLT, Nat.reduceEqDiff, Nat.reduceAdd, Nat.reduceLeDiff, Nat.reduceSub, Nat.reduceMul, ↓reduceIte, reduceCtorEq, wrap_id, w_ite_ne, w_ite_lt, Nat.sub_zero, Nat.sub_self]
  refine (hcl_slices_Clone__int _ (ints r.m) (by rw [ints_length]; omega)).mono ?_
  rintro X τ ⟨q, g, rfl, hq1, hq2, hqo, hfr⟩
  obtain ⟨ob, m, c⟩ := τ
  have e0 := hfr 0 (by simp only; omega)
  have e1 := hfr 1 (by simp only; omega)
  have e2 := hfr 2 (by simp only; omega)
  simp only [ints_length] at hq1 hq2 hqo
  try simp (disch := omega) only [go_sem, Int.reduceEq, Int.reduceLT, Int.reduceLE, Int.reduceToNat, Nat.reduceLT, Nat.reduceEqDiff, Nat.reduceAdd, Nat.reduceLeDiff, Nat.reduceSub, Nat.reduceMul, ↓reduceIte, reduceCtorEq, wrap_id, w_ite_ne, w_ite_lt, Nat.sub_zero, Nat.sub_self] at e0 e1 e2
  try simp (disch := omega) only [go_sem, Int.reduceEq, Int.reduceLT, Int.reduceLE, Int.reduceToNat, Nat.reduceLT, Nat.reduceEqDiff, Nat.reduceAdd, Nat.reduceLeDiff, Nat.reduceSub, Nat.reduceMul, ↓reduceIte, reduceCtorEq, wrap_id, w_ite_ne, w_ite_lt, Nat.sub_zero, Nat.sub_self, e0, e1, e2, ints_length]
  refine gd_td rfl (fun hlt => ?_) (fun hge => ?_)
  · try simp (disch := omega) only [go_sem, Int.reduceEq, Int.reduceLT, Int.reduceLE, Int.reduceToNat, Nat.reduceLT, Nat.reduceEqDiff, Nat.reduceAdd, Nat.reduceLeDiff, Nat.reduceSub, Nat.reduceMul, ↓reduceIte, reduceCtorEq, wrap_id, w_ite_ne, w_ite_lt, Nat.sub_zero, Nat.sub_self, e0, e1, e2]
    refine cond_n (fun hmi => ?_) (fun hmi => ?_) <;> try simp (disch := omega) only [go_sem, Int.reduceEq, Int.reduceLT, Int.reduceLE, Int.reduceToNat, Nat.reduceLT, Nat.reduceEqDiff, Nat.reduceAdd, Nat.reduceLeDiff, Nat.reduceSub, Nat.reduceMul, ↓reduceIte, reduceCtorEq, wrap_id, w_ite_ne, w_ite_lt, Nat.sub_zero, Nat.sub_self, e0, e1, e2]
    · have hnm : ¬ f.n ∈ r.m := fun h => hmi (hbm.2 h)
      refine zero 46 (by simp [takeR, hok, hfo, hst, hlt, hnm])
    · have hmm : f.n ∈ r.m := hbm.1 hmi
      have hres : takeR r f = (⟨r.s, r.n, r.m.filter fun x => !decide (x = f.n)⟩, f.l, 0) := by simp [takeR, hok, hfo, hst, hlt, hmm]
      have hbl := (List.getElem?_eq_some_iff.1 hmi).1
      rw [hres]
      try simp (disch := omega) only [go_sem, Int.reduceEq, Int.reduceLT, Int.reduceLE, Int.reduceToNat, Nat.reduceLT, Nat.reduceEqDiff, Nat.reduceAdd, Nat.reduceLeDiff, Nat.reduceSub, Nat.reduceMul, ↓reduceIte, reduceCtorEq, wrap_id, w_ite_ne, w_ite_lt, Nat.sub_zero, Nat.sub_self, hmi, e0, e1, e2]
      have e5 : ((bsI r.m f.n : Nat) : Int) + 1 = ((bsI r.m f.n + 1 : Nat) : Int) := by omega
      rw [e5]
      have hD := hc_slices_Delete__int ⟨upd (upd ob m (some ⟨c, 3, 28, false, true, [.agg [.int .i64 0, .int .i64 0, .nil]]⟩)) m (some ⟨c, 3, 28, false, true, [.agg [.int .i64 r.s, .int .i64 r.n, .sl q g 1 0 r.m.length]]⟩), m + 1, c + 1⟩
        q g ty_el_int (ints r.m) (bsI r.m f.n) (bsI r.m f.n + 1) (by try simp (disch := omega) only [go_sem, Int.reduceEq, Int.reduceLT, Int.reduceLE, Int.reduceToNat, Nat.reduceLT, Nat.reduceEqDiff, Nat.reduceAdd, Nat.reduceLeDiff, Nat.reduceSub, Nat.reduceMul, ↓reduceIte, reduceCtorEq, wrap_id, w_ite_ne, w_ite_lt, Nat.sub_zero, Nat.sub_self]; exact hqo) (by omega) (by rw [ints_length]; omega) (by rw [ints_length]; omega)
      rw [ints_length, ints_take, ints_drop, ints_append, del_filter (ascB_asc hasc) hmi] at hD
      have hlf : r.m.length - (bsI r.m f.n + 1 - bsI r.m f.n) = (r.m.filter fun x => !decide (x = f.n)).length := by
        rw [← del_filter (ascB_asc hasc) hmi]; simp; omega
      rw [hlf] at hD
      refine call_hc hD ?_
      try simp (disch := omega) only [go_sem, Int.reduceEq, Int.reduceLT, Int.reduceLE, Int.reduceToNat, Nat.reduceLT, Nat.reduceEqDiff, Nat.reduceAdd, Nat.reduceLeDiff, Nat.reduceSub, Nat.reduceMul, ↓reduceIte, reduceCtorEq, wrap_id, w_ite_ne, w_ite_lt, Nat.sub_zero, Nat.sub_self, e1]
      refine call_pc (okl_slices_Clone__Reading (rds f.l) (by rw [rds_length]; omega) (rds_pur _) (rds_ok _)) (by simp [go_sem]) ?_
      try simp (disch := omega) only [go_sem, Int.reduceEq, Int.reduceLT, Int.reduceLE, Int.reduceToNat, Nat.reduceLT, Nat.reduceEqDiff, Nat.reduceAdd, Nat.reduceLeDiff, Nat.reduceSub, Nat.reduceMul, ↓reduceIte, reduceCtorEq, wrap_id, w_ite_ne, w_ite_lt, Nat.sub_zero, Nat.sub_self, e2]
      refine Pub.three (Pub.agg3 (Pub.of_eq rfl rfl) (Pub.of_eq rfl rfl) (Pub.of_sl (by first | ((try simp (maxSteps := 1000000) only [go_sem, Int.reduceEq, Int.reduceLT, Int.reduceLE, Int.reduceToNat, Nat.reduceLT, Nat.reduceEqDiff, Nat.reduceAdd, Nat.reduceLeDiff, Nat.reduceSub, Nat.reduceMul, ↓reduceIte, reduceCtorEq, w_app_nl]); done) | ((try simp (maxSteps := 1000000) only [go_sem, Int.reduceEq, Int.reduceLT, Int.reduceLE, Int.reduceToNat, Nat.reduceLT, Nat.reduceEqDiff, Nat.reduceAdd, Nat.reduceLeDiff, Nat.reduceSub, Nat.reduceMul, ↓reduceIte, reduceCtorEq, w_app_nl]); rfl) | ((try simp (maxSteps := 1000000) (disch := omega) only [go_sem, Int.reduceEq, Int.reduceLT, Int.reduceLE, Int.reduceToNat, Nat.reduceLT, Nat.reduceEqDiff, Nat.reduceAdd, Nat.reduceLeDiff, Nat.reduceSub, Nat.reduceMul, ↓reduceIte, reduceCtorEq, w_app_nl, wrap_id, w_ite_ne, w_ite_lt]); rfl) | (simp (maxSteps := 1000000) (disch := omega) only [go_sem, Int.reduceEq, Int.reduceLT, Int.reduceLE, Int.reduceToNat, Nat.reduceLT, Nat.reduceEqDiff, Nat.reduceAdd, Nat.reduceLeDiff, Nat.reduceSub, Nat.reduceMul, ↓reduceIte, reduceCtorEq, w_app_nl, wrap_id, w_ite_ne, w_ite_lt]; done)) (by rw [ints_length]) (ints_pur _) (ints_ok _))) (Pub.of_eq rfl rfl) (Pub.of_eq rfl rfl)
  · try simp (disch := omega) only [go_sem, Int.reduceEq, Int.reduceLT, Int.reduceLE, Int.reduceToNat, Nat.reduceLT, Nat.reduceEqDiff, Nat.reduceAdd, Nat.reduceLeDiff, Nat.reduceSub, Nat.reduceMul, ↓reduceIte, reduceCtorEq, wrap_id, w_ite_ne, w_ite_lt, Nat.sub_zero, Nat.sub_self, e0, e1, e2, ints_length]
    have hnm : ¬ f.n ∈ r.m := fun h => by have := (ascB_lt hasc f.n h).2; omega
    have hni : ¬ r.m[bsI r.m f.n]? = some f.n := fun h => hnm (hbm.1 h)
    try simp (disch := omega) only [go_sem, Int.reduceEq, Int.reduceLT, Int.reduceLE, Int.reduceToNat, Nat.reduceLT, Nat.reduceEqDiff, Nat.reduceAdd, Nat.reduceLeDiff, Nat.reduceSub, Nat.reduceMul, ↓reduceIte, reduceCtorEq, wrap_id, w_ite_ne, w_ite_lt, Nat.sub_zero, Nat.sub_self, hni, e0, e1, e2, ints_length]
    refine cond_d (fun hgap => ?_) (fun hgap => ?_) <;> try simp (disch := omega) only [go_sem, Int.reduceEq, Int.reduceLT, Int.reduceLE, Int.reduceToNat, Nat.reduceLT, Nat.reduceEqDiff, Nat.reduceAdd, Nat.reduceLeDiff, Nat.reduceSub, Nat.reduceMul, ↓reduceIte, reduceCtorEq, wrap_id, w_ite_ne, w_ite_lt, Nat.sub_zero, Nat.sub_self, e0, e1, e2]
    · exact zero 45 (by simp [takeR, hok, hfo, hst, hge]; omega)
    have hres : takeR r f = (⟨r.s, f.n + 1, r.m ++ upto r.n f.n⟩, f.l, 0) := by
      have : ¬ 256 < (r.m.length : Int) + f.n - r.n := by omega
      simp only [takeR, hok, hfo, hst, hge, this, if_true, if_false]
    rw [hres]
    obtain ⟨cn, hcn⟩ : ∃ cn : Nat, f.n - r.n = cn := ⟨(f.n - r.n).toNat, by omega⟩
    have hfn : f.n = r.n + cn := by omega
    refine awp_upG [11, 46, 47, 48, 49, 50, 51, 52, 53, 54, 55, 56, 57] (by kernel_rfl) cn (fun k e σ => e 11 = .int .i64 (r.n + k) ∧ σ.ob 1 = some ⟨1, 3, 36, false, true, [.agg [.int .i64 f.s, .int .i64 f.n, .list 4 (rds f.l)]]⟩ ∧ σ.ob 2 = some ⟨2, 3, 28, false, true, [.agg [.int .i64 0, .int .i64 0, .nil]]⟩ ∧
      ∃ X, σ.ob m = some ⟨c, 3, 28, false, true, [.agg [.int .i64 r.s, .int .i64 r.n, X]]⟩ ∧ SlR 1 3 σ (ints (r.m ++ upto r.n (r.n + k))) X ∧ Oth X 1 ∧ Oth X 2 ∧ Oth X m) ?_ ?_
    · refine ⟨by try simp (disch := omega) only [go_sem, Int.reduceEq, Int.reduceLT, Int.reduceLE, Int.reduceToNat, Nat.reduceLT, Nat.reduceEqDiff, Nat.reduceAdd, Nat.reduceLeDiff, Nat.reduceSub, Nat.reduceMul, ↓reduceIte, reduceCtorEq, wrap_id, w_ite_ne, w_ite_lt, Nat.sub_zero, Nat.sub_self]; simp, ?_, ?_, .sl q g 1 0 r.m.length, (by first | ((try simp (maxSteps := 1000000) only [go_sem, Int.reduceEq, Int.reduceLT, Int.reduceLE, Int.reduceToNat, Nat.reduceLT, Nat.reduceEqDiff, Nat.reduceAdd, Nat.reduceLeDiff, Nat.reduceSub, Nat.reduceMul, ↓reduceIte, reduceCtorEq, w_app_nl]); done) | ((try simp (maxSteps := 1000000) only [go_sem, Int.reduceEq, Int.reduceLT, Int.reduceLE, Int.reduceToNat, Nat.reduceLT, Nat.reduceEqDiff, Nat.reduceAdd, Nat.reduceLeDiff, Nat.reduceSub, Nat.reduceMul, ↓reduceIte, reduceCtorEq, w_app_nl]); rfl) | ((try simp (maxSteps := 1000000) (disch := omega) only [go_sem, Int.reduceEq, Int.reduceLT, Int.reduceLE, Int.reduceToNat, Nat.reduceLT, Nat.reduceEqDiff, Nat.reduceAdd, Nat.reduceLeDiff, Nat.reduceSub, Nat.reduceMul, ↓reduceIte, reduceCtorEq, w_app_nl, wrap_id, w_ite_ne, w_ite_lt]); rfl) | (simp (maxSteps := 1000000) (disch := omega) only [go_sem, Int.reduceEq, Int.reduceLT, Int.reduceLE, Int.reduceToNat, Nat.reduceLT, Nat.reduceEqDiff, Nat.reduceAdd, Nat.reduceLeDiff, Nat.reduceSub, Nat.reduceMul, ↓reduceIte, reduceCtorEq, w_app_nl, wrap_id, w_ite_ne, w_ite_lt]; done)), .inr ⟨q, g, ?_, by (try simp (maxSteps := 1000000) only [go_sem, Int.reduceEq, Int.reduceLT, Int.reduceLE, Int.reduceToNat, Nat.reduceLT, Nat.reduceEqDiff, Nat.reduceAdd, Nat.reduceLeDiff, Nat.reduceSub, Nat.reduceMul, ↓reduceIte, reduceCtorEq, w_app_nl]); omega, ?_⟩, Oth.sl (by omega), Oth.sl (by omega), Oth.sl (by omega)⟩
      · try simp (disch := omega) only [go_sem, Int.reduceEq, Int.reduceLT, Int.reduceLE, Int.reduceToNat, Nat.reduceLT, Nat.reduceEqDiff, Nat.reduceAdd, Nat.reduceLeDiff, Nat.reduceSub, Nat.reduceMul, ↓reduceIte, reduceCtorEq, wrap_id, w_ite_ne, w_ite_lt, Nat.sub_zero, Nat.sub_self]; exact e1
      · try simp (disch := omega) only [go_sem, Int.reduceEq, Int.reduceLT, Int.reduceLE, Int.reduceToNat, Nat.reduceLT, Nat.reduceEqDiff, Nat.reduceAdd, Nat.reduceLeDiff, Nat.reduceSub, Nat.reduceMul, ↓reduceIte, reduceCtorEq, wrap_id, w_ite_ne, w_ite_lt, Nat.sub_zero, Nat.sub_self]; exact e2
      · simp [upto, ints]
      · try simp (disch := omega) only [go_sem, Int.reduceEq, Int.reduceLT, Int.reduceLE, Int.reduceToNat, Nat.reduceLT, Nat.reduceEqDiff, Nat.reduceAdd, Nat.reduceLeDiff, Nat.reduceSub, Nat.reduceMul, ↓reduceIte, reduceCtorEq, wrap_id, w_ite_ne, w_ite_lt, Nat.sub_zero, Nat.sub_self]; rw [hqo]; simp [upto]
    · rintro k fe ob' m' c' hk hm ⟨h11, q1, q2, X, qm, hR, o1, o2, om⟩
      have hm3 : m + 1 ≤ m' := hm
      simp (maxSteps := 1000000) only [go_sem, Int.reduceEq, Int.reduceLT, Int.reduceLE, Int.reduceToNat, Nat.reduceLT, Nat.reduceEqDiff, Nat.reduceAdd, Nat.reduceLeDiff, Nat.reduceSub, Nat.reduceMul, ↓reduceIte, reduceCtorEq, w_app_nl] at h11 q1 q2 qm
      have hul := upto_length r.n k
      have hll : (r.m ++ upto r.n (r.n + k)).length ≤ 1000 := by rw [List.length_append, hul]; omega
      try simp (disch := omega) only [go_sem, Int.reduceEq, Int.reduceLT, Int.reduceLE, Int.reduceToNat, Nat.reduceLT, Nat.reduceEqDiff, Nat.reduceAdd, Nat.reduceLeDiff, Nat.reduceSub, Nat.reduceMul, ↓reduceIte, reduceCtorEq, wrap_id, w_ite_ne, w_ite_lt, Nat.sub_zero, Nat.sub_self, h11, q1]
      refine cond_d (fun hlt => ?_) (fun hge2 => ?_)
      · have hkc : k < cn := by omega
        try simp (disch := omega) only [go_sem, Int.reduceEq, Int.reduceLT, Int.reduceLE, Int.reduceToNat, Nat.reduceLT, Nat.reduceEqDiff, Nat.reduceAdd, Nat.reduceLeDiff, Nat.reduceSub, Nat.reduceMul, ↓reduceIte, reduceCtorEq, wrap_id, w_ite_ne, w_ite_lt, Nat.sub_zero, Nat.sub_self, h11, qm]
        refine app_slr hR (by rw [ints_length]; omega) (by rw [ints_length]; omega) fun X' τ hR' hK => ?_
        obtain ⟨ob2, m2, c2⟩ := τ
        have r1 := hK.2.1 1 (by simp only; omega) o1
        have r2 := hK.2.1 2 (by simp only; omega) o2
        have rm := hK.2.1 m (by simp only; omega) om
        have y1 := hK.2.2 1 (by simp only; omega) o1
        have y2 := hK.2.2 2 (by simp only; omega) o2
        have ym := hK.2.2 m (by simp only; omega) om
        have hmm := hK.1
        simp only [q1, q2, qm] at r1 r2 rm hmm
        try simp (disch := omega) only [go_sem, Int.reduceEq, Int.reduceLT, Int.reduceLE, Int.reduceToNat, Nat.reduceLT, Nat.reduceEqDiff, Nat.reduceAdd, Nat.reduceLeDiff, Nat.reduceSub, Nat.reduceMul, ↓reduceIte, reduceCtorEq, wrap_id, w_ite_ne, w_ite_lt, Nat.sub_zero, Nat.sub_self, h11, rm, hR'.one, hR'.flat, hR'.cells]
        repeat (refine And.intro (by first | omega | (rw [mxL]; omega) | (simp [maxLen]; done) | (simp [maxLen]; omega)) ?_)
        refine up_nextG m2 hkc (by omega) ⟨?_, ?_, ?_, X', (by first | ((try simp (maxSteps := 1000000) only [go_sem, Int.reduceEq, Int.reduceLT, Int.reduceLE, Int.reduceToNat, Nat.reduceLT, Nat.reduceEqDiff, Nat.reduceAdd, Nat.reduceLeDiff, Nat.reduceSub, Nat.reduceMul, ↓reduceIte, reduceCtorEq, w_app_nl]); done) | ((try simp (maxSteps := 1000000) only [go_sem, Int.reduceEq, Int.reduceLT, Int.reduceLE, Int.reduceToNat, Nat.reduceLT, Nat.reduceEqDiff, Nat.reduceAdd, Nat.reduceLeDiff, Nat.reduceSub, Nat.reduceMul, ↓reduceIte, reduceCtorEq, w_app_nl]); rfl) | ((try simp (maxSteps := 1000000) (disch := omega) only [go_sem, Int.reduceEq, Int.reduceLT, Int.reduceLE, Int.reduceToNat, Nat.reduceLT, Nat.reduceEqDiff, Nat.reduceAdd, Nat.reduceLeDiff, Nat.reduceSub, Nat.reduceMul, ↓reduceIte, reduceCtorEq, w_app_nl, wrap_id, w_ite_ne, w_ite_lt]); rfl) | (simp (maxSteps := 1000000) (disch := omega) only [go_sem, Int.reduceEq, Int.reduceLT, Int.reduceLE, Int.reduceToNat, Nat.reduceLT, Nat.reduceEqDiff, Nat.reduceAdd, Nat.reduceLeDiff, Nat.reduceSub, Nat.reduceMul, ↓reduceIte, reduceCtorEq, w_app_nl, wrap_id, w_ite_ne, w_ite_lt]; done)), ?_, y1, y2, ym⟩
        · try simp (disch := omega) only [go_sem, Int.reduceEq, Int.reduceLT, Int.reduceLE, Int.reduceToNat, Nat.reduceLT, Nat.reduceEqDiff, Nat.reduceAdd, Nat.reduceLeDiff, Nat.reduceSub, Nat.reduceMul, ↓reduceIte, reduceCtorEq, wrap_id, w_ite_ne, w_ite_lt, Nat.sub_zero, Nat.sub_self]; congr 1; omega
        · try simp (disch := omega) only [go_sem, Int.reduceEq, Int.reduceLT, Int.reduceLE, Int.reduceToNat, Nat.reduceLT, Nat.reduceEqDiff, Nat.reduceAdd, Nat.reduceLeDiff, Nat.reduceSub, Nat.reduceMul, ↓reduceIte, reduceCtorEq, wrap_id, w_ite_ne, w_ite_lt, Nat.sub_zero, Nat.sub_self]; exact r1
        · try simp (disch := omega) only [go_sem, Int.reduceEq, Int.reduceLT, Int.reduceLE, Int.reduceToNat, Nat.reduceLT, Nat.reduceEqDiff, Nat.reduceAdd, Nat.reduceLeDiff, Nat.reduceSub, Nat.reduceMul, ↓reduceIte, reduceCtorEq, wrap_id, w_ite_ne, w_ite_lt, Nat.sub_zero, Nat.sub_self]; exact r2
        · rw [upto_succ, ← List.append_assoc, ← ints_append]
          refine hR'.move (by (try simp (maxSteps := 1000000) only [go_sem, Int.reduceEq, Int.reduceLT, Int.reduceLE, Int.reduceToNat, Nat.reduceLT, Nat.reduceEqDiff, Nat.reduceAdd, Nat.reduceLeDiff, Nat.reduceSub, Nat.reduceMul, ↓reduceIte, reduceCtorEq, w_app_nl]); omega) fun j hj hx => ?_
          have : ¬ j = m := fun e => hx (by rw [e]; exact ym)
          simp only at hj
          try simp (disch := omega) only [go_sem, Int.reduceEq, Int.reduceLT, Int.reduceLE, Int.reduceToNat, Nat.reduceLT, Nat.reduceEqDiff, Nat.reduceAdd, Nat.reduceLeDiff, Nat.reduceSub, Nat.reduceMul, ↓reduceIte, reduceCtorEq, wrap_id, w_ite_ne, w_ite_lt, Nat.sub_zero, Nat.sub_self]
      · have hkc : k = cn := by omega
        subst hkc
        rw [← hfn] at hR
        try simp (disch := omega) only [go_sem, Int.reduceEq, Int.reduceLT, Int.reduceLE, Int.reduceToNat, Nat.reduceLT, Nat.reduceEqDiff, Nat.reduceAdd, Nat.reduceLeDiff, Nat.reduceSub, Nat.reduceMul, ↓reduceIte, reduceCtorEq, wrap_id, w_ite_ne, w_ite_lt, Nat.sub_zero, Nat.sub_self, q1, qm]
        refine call_pc (okl_slices_Clone__Reading (rds f.l) (by rw [rds_length]; omega) (rds_pur _) (rds_ok _)) (by simp [go_sem]) ?_
        try simp (disch := omega) only [go_sem, Int.reduceEq, Int.reduceLT, Int.reduceLE, Int.reduceToNat, Nat.reduceLT, Nat.reduceEqDiff, Nat.reduceAdd, Nat.reduceLeDiff, Nat.reduceSub, Nat.reduceMul, ↓reduceIte, reduceCtorEq, wrap_id, w_ite_ne, w_ite_lt, Nat.sub_zero, Nat.sub_self, q2, hR.one, hR.flat, hR.cells]
        refine Pub.three (Pub.agg3 (Pub.of_eq rfl rfl) (Pub.of_eq rfl rfl) (hR.pub (fun j hj hx => ?_) (ints_pur _) (ints_ok _))) (Pub.of_eq rfl rfl) (Pub.of_eq rfl rfl)
        have n1 : ¬ j = m := fun e => hx (by rw [e]; exact om)
        have n2 : ¬ j = 2 := fun e => hx (by rw [e]; exact o2)
        try simp (disch := omega) only [go_sem, Int.reduceEq, Int.reduceLT, Int.reduceLE, Int.reduceToNat, Nat.reduceLT, Nat.reduceEqDiff, Nat.reduceAdd, Nat.reduceLeDiff, Nat.reduceSub, Nat.reduceMul, ↓reduceIte, reduceCtorEq, wrap_id, w_ite_ne, w_ite_lt, Nat.sub_zero, Nat.sub_self]
theorem ok_ref28_Take (r : Rc) (f : Fr) (hl : r.m.length ≤ 1000000) (hf : f.l.length ≤ 1000000) : PC prog n_ref28_Take [rcv r, frv f] (.tuple [rcv (takeR r f).1, .list 4 (rds (takeR r f).2.1), .int .i64 (takeR r f).2.2]) := by
  refine PC_of_body b_ref28_Take (by simp) ?_
  simp only [c_ref28_Take, go_sem, Int.reduceEq, Int.reduceLT, Int.reduceLE, Int.reduceToNat, Nat.reduceLT, Nat.reduceEqDiff, Nat.reduceAdd, Nat.reduceLeDiff, Nat.reduceSub, Nat.reduceMul, ↓reduceIte, reduceCtorEq, w_app_nl, rcv, frv]
  have zero : ∀ {σ : St} (e : Int), takeR r f = (⟨0, 0, []⟩, [], e) → Pub σ (.tuple [.agg [.int .i64 0, .int .i64 0, .nil], .nil, .int .i64 e]) (.tuple [rcv (takeR r f).1, .list 4 (rds (takeR r f).2.1), .int .i64 (takeR r f).2.2]) := by
    intro σ e h
    rw [h]
    exact Pub.three (Pub.agg3 (Pub.of_eq rfl rfl) (Pub.of_eq rfl rfl) (.nl 1)) (.nl 4) (Pub.of_eq rfl rfl)
  refine call_pc (ok_ref28_Check r (by omega)) (by simp [go_sem, rcv]) ?_
  try simp (disch := omega) only [go_sem, Int.reduceEq, Int.reduceLT, Int.reduceLE, Int.reduceToNat, Nat.reduceLT, Nat.reduceEqDiff, Nat.reduceAdd, Nat.reduceLeDiff, Nat.reduceSub, Nat.reduceMul, ↓reduceIte, reduceCtorEq, wrap_id, w_ite_ne, w_ite_lt, Nat.sub_zero, Nat.sub_self]
  by_cases hok : rcOk r = true
  case neg =>
    have hok : rcOk r = false := by simpa using hok
    have he : rcE r = 50 := by simp [rcE, hok]
    try simp (disch := omega) only [go_sem, Int.reduceEq, Int.reduceLT, Int.reduceLE, Int.reduceToNat, Nat.reduceLT, Nat.reduceEqDiff, Nat.reduceAdd, Nat.reduceLeDiff, Nat.reduceSub, Nat.reduceMul, ↓reduceIte, reduceCtorEq, wrap_id, w_ite_ne, w_ite_lt, Nat.sub_zero, Nat.sub_self, he]
    exact zero 50 (by simp [takeR, hok])
  have he : rcE r = 0 := by simp [rcE, hok]
  obtain ⟨hs0, hs1, hn0, hn1, hl2, hasc⟩ := rcOk_parts hok
  try simp (disch := omega) only [go_sem, Int.reduceEq, Int.reduceLT, Int.reduceLE, Int.reduceToNat, Nat.reduceLT, Nat.reduceEqDiff, Nat.reduceAdd, Nat.reduceLeDiff, Nat.reduceSub, Nat.reduceMul, ↓reduceIte, reduceCtorEq, wrap_id, w_ite_ne, w_ite_lt, Nat.sub_zero, Nat.sub_self, he]
  refine call_pc (ok_ref28_Valid f (by omega)) (by simp [go_sem, frv]) ?_
  try simp (disch := omega) only [go_sem, Int.reduceEq, Int.reduceLT, Int.reduceLE, Int.reduceToNat, Nat.reduceLT, Nat.reduceEqDiff, Nat.reduceAdd, Nat.reduceLeDiff, Nat.reduceSub, Nat.reduceMul, ↓reduceIte, reduceCtorEq, wrap_id, w_ite_ne, w_ite_lt, Nat.sub_zero, Nat.sub_self]
  refine cond_split (fun h => ?_) (fun h => ?_) <;> try simp (disch := omega) only [go_sem, Int.reduceEq, Int.reduceLT, Int.reduceLE, Int.reduceToNat, Nat.reduceLT, Nat.reduceEqDiff, Nat.reduceAdd, Nat.reduceLeDiff, Nat.reduceSub, Nat.reduceMul, ↓reduceIte, reduceCtorEq, wrap_id, w_ite_ne, w_ite_lt, Nat.sub_zero, Nat.sub_self]
  · exact zero 3 (by simp at h; simp [takeR, hok, h])
  have hfo : frOk f = true := by simpa using h
  obtain ⟨hf1, hf2, hf3, hf4, hf5⟩ := frOk_parts hfo
  refine cond_n (fun h => ?_) (fun hst => ?_) <;> try simp (disch := omega) only [go_sem, Int.reduceEq, Int.reduceLT, Int.reduceLE, Int.reduceToNat, Nat.reduceLT, Nat.reduceEqDiff, Nat.reduceAdd, Nat.reduceLeDiff, Nat.reduceSub, Nat.reduceMul, ↓reduceIte, reduceCtorEq, wrap_id, w_ite_ne, w_ite_lt, Nat.sub_zero, Nat.sub_self, ints_length]
  · exact zero 40 (by simp [takeR, hok, hfo, h])
  have hlen : ∀ i : Nat, ((r.m.take i).filter fun x => !decide (x = f.n)).length ≤ 256 := fun i => Nat.le_trans (List.length_filter_le _ _) (by rw [List.length_take]; omega)
  refine awp_upG [8, 10, 37, 38, 39, 40, 41, 42, 43, 44, 45, 46, 47, 48, 49, 50, 51] (by kernel_rfl) r.m.length (fun i e σ => e 37 = .int .i64 i ∧ e 8 = .bool (decide (f.n ∈ r.m.take i)) ∧ σ.ob 0 = some ⟨0, 3, 28, false, true, [.agg [.int .i64 r.s, .int .i64 r.n, .list 1 (ints r.m)]]⟩ ∧
    σ.ob 1 = some ⟨1, 3, 36, false, true, [.agg [.int .i64 f.s, .int .i64 f.n, .list 4 (rds f.l)]]⟩ ∧ σ.ob 2 = some ⟨2, 3, 28, false, true, [.agg [.int .i64 0, .int .i64 0, .nil]]⟩ ∧
    ∃ X, σ.ob 3 = some ⟨3, 3, 28, false, true, [.agg [.int .i64 r.s, .int .i64 r.n, X]]⟩ ∧ SlR 1 3 σ (ints ((r.m.take i).filter fun x => !decide (x = f.n))) X ∧ ∀ j, j ≤ 3 → Oth X j) ?_ ?_
  · exact ⟨(by first | ((try simp (maxSteps := 1000000) only [go_sem, Int.reduceEq, Int.reduceLT, Int.reduceLE, Int.reduceToNat, Nat.reduceLT, Nat.reduceEqDiff, Nat.reduceAdd, Nat.reduceLeDiff, Nat.reduceSub, Nat.reduceMul, ↓reduceIte, reduceCtorEq, w_app_nl]); done) | ((try simp (maxSteps := 1000000) only [go_sem, Int.reduceEq, Int.reduceLT, Int.reduceLE, Int.reduceToNat, Nat.reduceLT, Nat.reduceEqDiff, Nat.reduceAdd, Nat.reduceLeDiff, Nat.reduceSub, Nat.reduceMul, ↓reduceIte, reduceCtorEq, w_app_nl]); rfl) | ((try simp (maxSteps := 1000000) (disch := omega) only [go_sem, Int.reduceEq, Int.reduceLT, Int.reduceLE, Int.reduceToNat, Nat.reduceLT, Nat.reduceEqDiff, Nat.reduceAdd, Nat.reduceLeDiff, Nat.reduceSub, Nat.reduceMul, ↓reduceIte, reduceCtorEq, w_app_nl, wrap_id, w_ite_ne, w_ite_lt]); rfl) | (simp (maxSteps := 1000000) (disch := omega) only [go_sem, Int.reduceEq, Int.reduceLT, Int.reduceLE, Int.reduceToNat, Nat.reduceLT, Nat.reduceEqDiff, Nat.reduceAdd, Nat.reduceLeDiff, Nat.reduceSub, Nat.reduceMul, ↓reduceIte, reduceCtorEq, w_app_nl, wrap_id, w_ite_ne, w_ite_lt]; done)), by show AV.bool false = _; simp, (by first | ((try simp (maxSteps := 1000000) only [go_sem, Int.reduceEq, Int.reduceLT, Int.reduceLE, Int.reduceToNat, Nat.reduceLT, Nat.reduceEqDiff, Nat.reduceAdd, Nat.reduceLeDiff, Nat.reduceSub, Nat.reduceMul, ↓reduceIte, reduceCtorEq, w_app_nl]); done) | ((try simp (maxSteps := 1000000) only [go_sem, Int.reduceEq, Int.reduceLT, Int.reduceLE, Int.reduceToNat, Nat.reduceLT, Nat.reduceEqDiff, Nat.reduceAdd, Nat.reduceLeDiff, Nat.reduceSub, Nat.reduceMul, ↓reduceIte, reduceCtorEq, w_app_nl]); rfl) | ((try simp (maxSteps := 1000000) (disch := omega) only [go_sem, Int.reduceEq, Int.reduceLT, Int.reduceLE, Int.reduceToNat, Nat.reduceLT, Nat.reduceEqDiff, Nat.reduceAdd, Nat.reduceLeDiff, Nat.reduceSub, Nat.reduceMul, ↓reduceIte, reduceCtorEq, w_app_nl, wrap_id, w_ite_ne, w_ite_lt]); rfl) | (simp (maxSteps := 1000000) (disch := omega) only [go_sem, Int.reduceEq, Int.reduceLT, Int.reduceLE, Int.reduceToNat, Nat.reduceLT, Nat.reduceEqDiff, Nat.reduceAdd, Nat.reduceLeDiff, Nat.reduceSub, Nat.reduceMul, ↓reduceIte, reduceCtorEq, w_app_nl, wrap_id, w_ite_ne, w_ite_lt]; done)), (by first | ((try simp (maxSteps := 1000000) only [go_sem, Int.reduceEq, Int.reduceLT, Int.reduceLE, Int.reduceToNat, Nat.reduceLT, Nat.reduceEqDiff, Nat.reduceAdd, Nat.reduceLeDiff, Nat.reduceSub, Nat.reduceMul, ↓reduceIte, reduceCtorEq, w_app_nl]); done) | ((try simp (maxSteps := 1000000) only [go_sem, Int.reduceEq, Int.reduceLT, Int.reduceLE, Int.reduceToNat, Nat.reduceLT, Nat.reduceEqDiff, Nat.reduceAdd, Nat.reduceLeDiff, Nat.reduceSub, Nat.reduceMul, ↓reduceIte, reduceCtorEq, w_app_nl]); rfl) | ((try simp (maxSteps := 1000000) (disch := omega) only [go_sem, Int.reduceEq, Int.reduceLT, Int.reduceLE, Int.reduceToNat, Nat.reduceLT, Nat.reduceEqDiff, Nat.reduceAdd, Nat.reduceLeDiff, Nat.reduceSub, Nat.reduceMul, ↓reduceIte, reduceCtorEq, w_app_nl, wrap_id, w_ite_ne, w_ite_lt]); rfl) | (simp (maxSteps := 1000000) (disch := omega) only [go_sem, Int.reduceEq, Int.reduceLT, Int.reduceLE, Int.reduceToNat, Nat.reduceLT, Nat.reduceEqDiff, Nat.reduceAdd, Nat.reduceLeDiff, Nat.reduceSub, Nat.reduceMul, ↓reduceIte, reduceCtorEq, w_app_nl, wrap_id, w_ite_ne, w_ite_lt]; done)), (by first | ((try simp (maxSteps := 1000000) only [go_sem, Int.reduceEq, Int.reduceLT, Int.reduceLE, Int.reduceToNat, Nat.reduceLT, Nat.reduceEqDiff, Nat.reduceAdd, Nat.reduceLeDiff, Nat.reduceSub, Nat.reduceMul, ↓reduceIte, reduceCtorEq, w_app_nl]); done) | ((try simp (maxSteps := 1000000) only [go_sem, Int.reduceEq, Int.reduceLT, Int.reduceLE, Int.reduceToNat, Nat.reduceLT, Nat.reduceEqDiff, Nat.reduceAdd, Nat.reduceLeDiff, Nat.reduceSub, Nat.reduceMul, ↓reduceIte, reduceCtorEq, w_app_nl]); rfl) | ((try simp (maxSteps := 1000000) (disch := omega) only [go_sem, Int.reduceEq, Int.reduceLT, Int.reduceLE, Int.reduceToNat, Nat.reduceLT, Nat.reduceEqDiff, Nat.reduceAdd, Nat.reduceLeDiff, Nat.reduceSub, Nat.reduceMul, ↓reduceIte, reduceCtorEq, w_app_nl, wrap_id, w_ite_ne, w_ite_lt]); rfl) | (simp (maxSteps := 1000000) (disch := omega) only [go_sem, Int.reduceEq, Int.reduceLT, Int.reduceLE, Int.reduceToNat, Nat.reduceLT, Nat.reduceEqDiff, Nat.reduceAdd, Nat.reduceLeDiff, Nat.reduceSub, Nat.reduceMul, ↓reduceIte, reduceCtorEq, w_app_nl, wrap_id, w_ite_ne, w_ite_lt]; done)), .nil, (by first | ((try simp (maxSteps := 1000000) only [go_sem, Int.reduceEq, Int.reduceLT, Int.reduceLE, Int.reduceToNat, Nat.reduceLT, Nat.reduceEqDiff, Nat.reduceAdd, Nat.reduceLeDiff, Nat.reduceSub, Nat.reduceMul, ↓reduceIte, reduceCtorEq, w_app_nl]); done) | ((try simp (maxSteps := 1000000) only [go_sem, Int.reduceEq, Int.reduceLT, Int.reduceLE, Int.reduceToNat, Nat.reduceLT, Nat.reduceEqDiff, Nat.reduceAdd, Nat.reduceLeDiff, Nat.reduceSub, Nat.reduceMul, ↓reduceIte, reduceCtorEq, w_app_nl]); rfl) | ((try simp (maxSteps := 1000000) (disch := omega) only [go_sem, Int.reduceEq, Int.reduceLT, Int.reduceLE, Int.reduceToNat, Nat.reduceLT, Nat.reduceEqDiff, Nat.reduceAdd, Nat.reduceLeDiff, Nat.reduceSub, Nat.reduceMul, ↓reduceIte, reduceCtorEq, w_app_nl, wrap_id, w_ite_ne, w_ite_lt]); rfl) | (simp (maxSteps := 1000000) (disch := omega) only [go_sem, Int.reduceEq, Int.reduceLT, Int.reduceLE, Int.reduceToNat, Nat.reduceLT, Nat.reduceEqDiff, Nat.reduceAdd, Nat.reduceLeDiff, Nat.reduceSub, Nat.reduceMul, ↓reduceIte, reduceCtorEq, w_app_nl, wrap_id, w_ite_ne, w_ite_lt]; done)), .nil, fun j _ => Oth.nil j⟩
  · rintro i fe ob m c hi hm ⟨h37, h8, q0, q1, q2, X, q3, hR, ho⟩
    have hm4 : 4 ≤ m := hm
    simp (maxSteps := 1000000) only [go_sem, Int.reduceEq, Int.reduceLT, Int.reduceLE, Int.reduceToNat, Nat.reduceLT, Nat.reduceEqDiff, Nat.reduceAdd, Nat.reduceLeDiff, Nat.reduceSub, Nat.reduceMul, ↓reduceIte, reduceCtorEq, w_app_nl] at h37 h8 q0 q1 q2 q3
    try simp (disch := omega) only [go_sem, Int.reduceEq, Int.reduceLT, Int.reduceLE, Int.reduceToNat, Nat.reduceLT, Nat.reduceEqDiff, Nat.reduceAdd, Nat.reduceLeDiff, Nat.reduceSub, Nat.reduceMul, ↓reduceIte, reduceCtorEq, wrap_id, w_ite_ne, w_ite_lt, Nat.sub_zero, Nat.sub_self, h37, ints_length]
    refine cond_d (fun hlt => ?_) (fun hge => ?_)
    · have hil : i < r.m.length := by omega
      have hi2 : r.m[i]? = some r.m[i] := List.getElem?_eq_getElem hil
      have htk : r.m.take (i + 1) = r.m.take i ++ [r.m[i]] := by rw [List.take_add_one, hi2]; rfl
      have hli := hlen i
      generalize r.m[i] = x at *
      try simp (disch := omega) only [go_sem, Int.reduceEq, Int.reduceLT, Int.reduceLE, Int.reduceToNat, Nat.reduceLT, Nat.reduceEqDiff, Nat.reduceAdd, Nat.reduceLeDiff, Nat.reduceSub, Nat.reduceMul, ↓reduceIte, reduceCtorEq, wrap_id, w_ite_ne, w_ite_lt, Nat.sub_zero, Nat.sub_self, h37, q1, ints_length, ints_get, hi2]
      repeat (refine And.intro (by first | omega | (rw [mxL]; omega) | (simp [maxLen]; done) | (simp [maxLen]; omega)) ?_)
      refine cond_d (fun hx => ?_) (fun hx => ?_)
      · try simp (disch := omega) only [go_sem, Int.reduceEq, Int.reduceLT, Int.reduceLE, Int.reduceToNat, Nat.reduceLT, Nat.reduceEqDiff, Nat.reduceAdd, Nat.reduceLeDiff, Nat.reduceSub, Nat.reduceMul, ↓reduceIte, reduceCtorEq, wrap_id, w_ite_ne, w_ite_lt, Nat.sub_zero, Nat.sub_self, h37]
        refine up_nextG m hil (by omega) ⟨(by first | ((try simp (maxSteps := 1000000) only [go_sem, Int.reduceEq, Int.reduceLT, Int.reduceLE, Int.reduceToNat, Nat.reduceLT, Nat.reduceEqDiff, Nat.reduceAdd, Nat.reduceLeDiff, Nat.reduceSub, Nat.reduceMul, ↓reduceIte, reduceCtorEq, w_app_nl]); done) | ((try simp (maxSteps := 1000000) only [go_sem, Int.reduceEq, Int.reduceLT, Int.reduceLE, Int.reduceToNat, Nat.reduceLT, Nat.reduceEqDiff, Nat.reduceAdd, Nat.reduceLeDiff, Nat.reduceSub, Nat.reduceMul, ↓reduceIte, reduceCtorEq, w_app_nl]); rfl) | ((try simp (maxSteps := 1000000) (disch := omega) only [go_sem, Int.reduceEq, Int.reduceLT, Int.reduceLE, Int.reduceToNat, Nat.reduceLT, Nat.reduceEqDiff, Nat.reduceAdd, Nat.reduceLeDiff, Nat.reduceSub, Nat.reduceMul, ↓reduceIte, reduceCtorEq, w_app_nl, wrap_id, w_ite_ne, w_ite_lt]); rfl) | (simp (maxSteps := 1000000) (disch := omega) only [go_sem, Int.reduceEq, Int.reduceLT, Int.reduceLE, Int.reduceToNat, Nat.reduceLT, Nat.reduceEqDiff, Nat.reduceAdd, Nat.reduceLeDiff, Nat.reduceSub, Nat.reduceMul, ↓reduceIte, reduceCtorEq, w_app_nl, wrap_id, w_ite_ne, w_ite_lt]; done)), ?_, ?_, ?_, ?_, X, ?_, ?_, ho⟩
        · try simp (disch := omega) only [go_sem, Int.reduceEq, Int.reduceLT, Int.reduceLE, Int.reduceToNat, Nat.reduceLT, Nat.reduceEqDiff, Nat.reduceAdd, Nat.reduceLeDiff, Nat.reduceSub, Nat.reduceMul, ↓reduceIte, reduceCtorEq, wrap_id, w_ite_ne, w_ite_lt, Nat.sub_zero, Nat.sub_self]; rw [htk, hx]; simp
        · try simp (disch := omega) only [go_sem, Int.reduceEq, Int.reduceLT, Int.reduceLE, Int.reduceToNat, Nat.reduceLT, Nat.reduceEqDiff, Nat.reduceAdd, Nat.reduceLeDiff, Nat.reduceSub, Nat.reduceMul, ↓reduceIte, reduceCtorEq, wrap_id, w_ite_ne, w_ite_lt, Nat.sub_zero, Nat.sub_self]; exact q0
        · try simp (disch := omega) only [go_sem, Int.reduceEq, Int.reduceLT, Int.reduceLE, Int.reduceToNat, Nat.reduceLT, Nat.reduceEqDiff, Nat.reduceAdd, Nat.reduceLeDiff, Nat.reduceSub, Nat.reduceMul, ↓reduceIte, reduceCtorEq, wrap_id, w_ite_ne, w_ite_lt, Nat.sub_zero, Nat.sub_self]; exact q1
        · try simp (disch := omega) only [go_sem, Int.reduceEq, Int.reduceLT, Int.reduceLE, Int.reduceToNat, Nat.reduceLT, Nat.reduceEqDiff, Nat.reduceAdd, Nat.reduceLeDiff, Nat.reduceSub, Nat.reduceMul, ↓reduceIte, reduceCtorEq, wrap_id, w_ite_ne, w_ite_lt, Nat.sub_zero, Nat.sub_self]; exact q2
        · try simp (disch := omega) only [go_sem, Int.reduceEq, Int.reduceLT, Int.reduceLE, Int.reduceToNat, Nat.reduceLT, Nat.reduceEqDiff, Nat.reduceAdd, Nat.reduceLeDiff, Nat.reduceSub, Nat.reduceMul, ↓reduceIte, reduceCtorEq, wrap_id, w_ite_ne, w_ite_lt, Nat.sub_zero, Nat.sub_self]; exact q3
        · rw [htk, List.filter_append]
          simp only [List.filter_cons, List.filter_nil, hx, decide_true, Bool.not_true, Bool.false_eq_true, if_false, List.append_nil]
          refine hR.move (by (try simp (maxSteps := 1000000) only [go_sem, Int.reduceEq, Int.reduceLT, Int.reduceLE, Int.reduceToNat, Nat.reduceLT, Nat.reduceEqDiff, Nat.reduceAdd, Nat.reduceLeDiff, Nat.reduceSub, Nat.reduceMul, ↓reduceIte, reduceCtorEq, w_app_nl]); omega) fun q hq _ => ?_
          simp only at hq
          try simp (disch := omega) only [go_sem, Int.reduceEq, Int.reduceLT, Int.reduceLE, Int.reduceToNat, Nat.reduceLT, Nat.reduceEqDiff, Nat.reduceAdd, Nat.reduceLeDiff, Nat.reduceSub, Nat.reduceMul, ↓reduceIte, reduceCtorEq, wrap_id, w_ite_ne, w_ite_lt, Nat.sub_zero, Nat.sub_self]
      · try simp (disch := omega) only [go_sem, Int.reduceEq, Int.reduceLT, Int.reduceLE, Int.reduceToNat, Nat.reduceLT, Nat.reduceEqDiff, Nat.reduceAdd, Nat.reduceLeDiff, Nat.reduceSub, Nat.reduceMul, ↓reduceIte, reduceCtorEq, wrap_id, w_ite_ne, w_ite_lt, Nat.sub_zero, Nat.sub_self, h37, q3]
        refine app_slr hR (by rw [ints_length]; omega) (by rw [ints_length]; omega) fun X' τ hR' hK => ?_
        obtain ⟨ob', m', c'⟩ := τ
        have e0 := hK.2.1 0 (by simp only; omega) (ho 0 (by omega))
        have e1 := hK.2.1 1 (by simp only; omega) (ho 1 (by omega))
        have e2 := hK.2.1 2 (by simp only; omega) (ho 2 (by omega))
        have e3 := hK.2.1 3 (by simp only; omega) (ho 3 (by omega))
        have hmm := hK.1
        simp only [q0, q1, q2, q3] at e0 e1 e2 e3 hmm
        have ho' : ∀ j, j ≤ 3 → Oth X' j := fun j hj => hK.2.2 j (by simp only; omega) (ho j hj)
        try simp (disch := omega) only [go_sem, Int.reduceEq, Int.reduceLT, Int.reduceLE, Int.reduceToNat, Nat.reduceLT, Nat.reduceEqDiff, Nat.reduceAdd, Nat.reduceLeDiff, Nat.reduceSub, Nat.reduceMul, ↓reduceIte, reduceCtorEq, wrap_id, w_ite_ne, w_ite_lt, Nat.sub_zero, Nat.sub_self, h37, e3, hR'.one, hR'.flat, hR'.cells]
        repeat (refine And.intro (by first | omega | (rw [mxL]; omega) | (simp [maxLen]; done) | (simp [maxLen]; omega)) ?_)
        refine up_nextG m' hil (by omega) ⟨(by first | ((try simp (maxSteps := 1000000) only [go_sem, Int.reduceEq, Int.reduceLT, Int.reduceLE, Int.reduceToNat, Nat.reduceLT, Nat.reduceEqDiff, Nat.reduceAdd, Nat.reduceLeDiff, Nat.reduceSub, Nat.reduceMul, ↓reduceIte, reduceCtorEq, w_app_nl]); done) | ((try simp (maxSteps := 1000000) only [go_sem, Int.reduceEq, Int.reduceLT, Int.reduceLE, Int.reduceToNat, Nat.reduceLT, Nat.reduceEqDiff, Nat.reduceAdd, Nat.reduceLeDiff, Nat.reduceSub, Nat.reduceMul, ↓reduceIte, reduceCtorEq, w_app_nl]); rfl) | ((try simp (maxSteps := 1000000) (disch := omega) only [go_sem, Int.reduceEq, Int.reduceLT, Int.reduceLE, Int.reduceToNat, Nat.reduceLT, Nat.reduceEqDiff, Nat.reduceAdd, Nat.reduceLeDiff, Nat.reduceSub, Nat.reduceMul, ↓reduceIte, reduceCtorEq, w_app_nl, wrap_id, w_ite_ne, w_ite_lt]); rfl) | (simp (maxSteps := 1000000) (disch := omega) only [go_sem, Int.reduceEq, Int.reduceLT, Int.reduceLE, Int.reduceToNat, Nat.reduceLT, Nat.reduceEqDiff, Nat.reduceAdd, Nat.reduceLeDiff, Nat.reduceSub, Nat.reduceMul, ↓reduceIte, reduceCtorEq, w_app_nl, wrap_id, w_ite_ne, w_ite_lt]; done)), ?_, ?_, ?_, ?_, X', (by first | ((try simp (maxSteps := 1000000) only [go_sem, Int.reduceEq, Int.reduceLT, Int.reduceLE, Int.reduceToNat, Nat.reduceLT, Nat.reduceEqDiff, Nat.reduceAdd, Nat.reduceLeDiff, Nat.reduceSub, Nat.reduceMul, ↓reduceIte, reduceCtorEq, w_app_nl]); done) | ((try simp (maxSteps := 1000000) only [go_sem, Int.reduceEq, Int.reduceLT, Int.reduceLE, Int.reduceToNat, Nat.reduceLT, Nat.reduceEqDiff, Nat.reduceAdd, Nat.reduceLeDiff, Nat.reduceSub, Nat.reduceMul, ↓reduceIte, reduceCtorEq, w_app_nl]); rfl) | ((try simp (maxSteps := 1000000) (disch := omega) only [go_sem, Int.reduceEq, Int.reduceLT, Int.reduceLE, Int.reduceToNat, Nat.reduceLT, Nat.reduceEqDiff, Nat.reduceAdd, Nat.reduceLeDiff, Nat.reduceSub, Nat.reduceMul, ↓reduceIte, reduceCtorEq, w_app_nl, wrap_id, w_ite_ne, w_ite_lt]); rfl) | (simp (maxSteps := 1000000) (disch := omega) only [go_sem, Int.reduceEq, Int.reduceLT, Int.reduceLE, Int.reduceToNat, Nat.reduceLT, Nat.reduceEqDiff, Nat.reduceAdd, Nat.reduceLeDiff, Nat.reduceSub, Nat.reduceMul, ↓reduceIte, reduceCtorEq, w_app_nl, wrap_id, w_ite_ne, w_ite_lt]; done)), ?_, ho'⟩
        · try simp (disch := omega) only [go_sem, Int.reduceEq, Int.reduceLT, Int.reduceLE, Int.reduceToNat, Nat.reduceLT, Nat.reduceEqDiff, Nat.reduceAdd, Nat.reduceLeDiff, Nat.reduceSub, Nat.reduceMul, ↓reduceIte, reduceCtorEq, wrap_id, w_ite_ne, w_ite_lt, Nat.sub_zero, Nat.sub_self, h8]
          rw [htk]
          have : ¬ f.n = x := fun h => hx h.symm
          simp [this]
        · try simp (disch := omega) only [go_sem, Int.reduceEq, Int.reduceLT, Int.reduceLE, Int.reduceToNat, Nat.reduceLT, Nat.reduceEqDiff, Nat.reduceAdd, Nat.reduceLeDiff, Nat.reduceSub, Nat.reduceMul, ↓reduceIte, reduceCtorEq, wrap_id, w_ite_ne, w_ite_lt, Nat.sub_zero, Nat.sub_self]; exact e0
        · try simp (disch := omega) only [go_sem, Int.reduceEq, Int.reduceLT, Int.reduceLE, Int.reduceToNat, Nat.reduceLT, Nat.reduceEqDiff, Nat.reduceAdd, Nat.reduceLeDiff, Nat.reduceSub, Nat.reduceMul, ↓reduceIte, reduceCtorEq, wrap_id, w_ite_ne, w_ite_lt, Nat.sub_zero, Nat.sub_self]; exact e1
        · try simp (disch := omega) only [go_sem, Int.reduceEq, Int.reduceLT, Int.reduceLE, Int.reduceToNat, Nat.reduceLT, Nat.reduceEqDiff, Nat.reduceAdd, Nat.reduceLeDiff, Nat.reduceSub, Nat.reduceMul, ↓reduceIte, reduceCtorEq, wrap_id, w_ite_ne, w_ite_lt, Nat.sub_zero, Nat.sub_self]; exact e2
        · rw [htk, List.filter_append]
          simp only [List.filter_cons, List.filter_nil, hx, decide_false, Bool.not_false, if_true]
          rw [← ints_append]
          refine hR'.move (by (try simp (maxSteps := 1000000) only [go_sem, Int.reduceEq, Int.reduceLT, Int.reduceLE, Int.reduceToNat, Nat.reduceLT, Nat.reduceEqDiff, Nat.reduceAdd, Nat.reduceLeDiff, Nat.reduceSub, Nat.reduceMul, ↓reduceIte, reduceCtorEq, w_app_nl]); omega) fun q hq hx => ?_
          have : ¬ q = 3 := fun e => hx (by rw [e]; exact ho' 3 (by omega))
          simp only at hq
          try simp (disch := omega) only [go_sem, Int.reduceEq, Int.reduceLT, Int.reduceLE, Int.reduceToNat, Nat.reduceLT, Nat.reduceEqDiff, Nat.reduceAdd, Nat.reduceLeDiff, Nat.reduceSub, Nat.reduceMul, ↓reduceIte, reduceCtorEq, wrap_id, w_ite_ne, w_ite_lt, Nat.sub_zero, Nat.sub_self]
    · have hil : i = r.m.length := by omega
      subst hil
      rw [List.take_length] at hR h8
      try simp (disch := omega) only [go_sem, Int.reduceEq, Int.reduceLT, Int.reduceLE, Int.reduceToNat, Nat.reduceLT, Nat.reduceEqDiff, Nat.reduceAdd, Nat.reduceLeDiff, Nat.reduceSub, Nat.reduceMul, ↓reduceIte, reduceCtorEq, wrap_id, w_ite_ne, w_ite_lt, Nat.sub_zero, Nat.sub_self, h8, q0, q1]
      refine gd_td rfl (fun hlt => ?_) (fun hge => ?_)
      · try simp (disch := omega) only [go_sem, Int.reduceEq, Int.reduceLT, Int.reduceLE, Int.reduceToNat, Nat.reduceLT, Nat.reduceEqDiff, Nat.reduceAdd, Nat.reduceLeDiff, Nat.reduceSub, Nat.reduceMul, ↓reduceIte, reduceCtorEq, wrap_id, w_ite_ne, w_ite_lt, Nat.sub_zero, Nat.sub_self, h8, q2]
        by_cases hmm : f.n ∈ r.m
        · have hres : takeR r f = (⟨r.s, r.n, r.m.filter fun x => !decide (x = f.n)⟩, f.l, 0) := by simp [takeR, hok, hfo, hst, hlt, hmm]
          have hge : ¬ r.n ≤ f.n := by omega
          try simp (disch := omega) only [go_sem, Int.reduceEq, Int.reduceLT, Int.reduceLE, Int.reduceToNat, Nat.reduceLT, Nat.reduceEqDiff, Nat.reduceAdd, Nat.reduceLeDiff, Nat.reduceSub, Nat.reduceMul, ↓reduceIte, reduceCtorEq, wrap_id, w_ite_ne, w_ite_lt, Nat.sub_zero, Nat.sub_self, hmm, q0, q1, hge, q3]
          refine app_slrs (es := 4) (b := 32) (L := []) (M := rds f.l) .nil (by rw [rds_length]; simp; omega) (by rw [rds_length]; simp; omega) fun X' τ hR' hK => ?_
          obtain ⟨ob', m', c'⟩ := τ
          have e1 := hK.2.1 1 (by simp only; omega) (Oth.nil _)
          have e2 := hK.2.1 2 (by simp only; omega) (Oth.nil _)
          have e3 := hK.2.1 3 (by simp only; omega) (Oth.nil _)
          simp only [q1, q2, q3] at e1 e2 e3
          rw [hres]
          try simp (disch := omega) only [go_sem, Int.reduceEq, Int.reduceLT, Int.reduceLE, Int.reduceToNat, Nat.reduceLT, Nat.reduceEqDiff, Nat.reduceAdd, Nat.reduceLeDiff, Nat.reduceSub, Nat.reduceMul, ↓reduceIte, reduceCtorEq, wrap_id, w_ite_ne, w_ite_lt, Nat.sub_zero, Nat.sub_self, e1, e2, e3, q1, q3, hR.one, hR.flat, hR.cells]
          have hX := hR.pub (τ := ⟨upd ob' 2 (some ⟨2, 3, 28, false, true, [.agg [.int .i64 r.s, .int .i64 r.n, X]]⟩), m', c'⟩) (fun q hq hx => by
            have : ¬ q = 2 := fun e => hx (by rw [e]; exact ho 2 (by omega))
            try simp (disch := omega) only [go_sem, Int.reduceEq, Int.reduceLT, Int.reduceLE, Int.reduceToNat, Nat.reduceLT, Nat.reduceEqDiff, Nat.reduceAdd, Nat.reduceLeDiff, Nat.reduceSub, Nat.reduceMul, ↓reduceIte, reduceCtorEq, wrap_id, w_ite_ne, w_ite_lt, Nat.sub_zero, Nat.sub_self]
            exact hK.2.1 q hq (Oth.nil _)) (ints_pur _) (ints_ok _)
          refine Pub.three (Pub.agg3 (Pub.of_eq rfl rfl) (Pub.of_eq rfl rfl) hX) (hR'.pub (fun q hq hx => ?_) (rds_pur _) (rds_ok _)) (Pub.of_eq rfl rfl)
          have : ¬ q = 2 := fun e => hx (by rw [e]; exact hK.2.2 2 (by simp only; omega) (Oth.nil _))
          try simp (disch := omega) only [go_sem, Int.reduceEq, Int.reduceLT, Int.reduceLE, Int.reduceToNat, Nat.reduceLT, Nat.reduceEqDiff, Nat.reduceAdd, Nat.reduceLeDiff, Nat.reduceSub, Nat.reduceMul, ↓reduceIte, reduceCtorEq, wrap_id, w_ite_ne, w_ite_lt, Nat.sub_zero, Nat.sub_self]
        · try simp (disch := omega) only [go_sem, Int.reduceEq, Int.reduceLT, Int.reduceLE, Int.reduceToNat, Nat.reduceLT, Nat.reduceEqDiff, Nat.reduceAdd, Nat.reduceLeDiff, Nat.reduceSub, Nat.reduceMul, ↓reduceIte, reduceCtorEq, wrap_id, w_ite_ne, w_ite_lt, Nat.sub_zero, Nat.sub_self, hmm, q0, q1, q2]
          exact zero 46 (by simp [takeR, hok, hfo, hst, hlt, hmm])
      · have hge2 : r.n ≤ f.n := by omega
        have hfl : r.m.filter (fun x => !decide (x = f.n)) = r.m := List.filter_eq_self.2 fun x hx => by
          have := (ascB_lt hasc x hx).2
          simp; omega
        rw [hfl] at hR
        try simp (disch := omega) only [go_sem, Int.reduceEq, Int.reduceLT, Int.reduceLE, Int.reduceToNat, Nat.reduceLT, Nat.reduceEqDiff, Nat.reduceAdd, Nat.reduceLeDiff, Nat.reduceSub, Nat.reduceMul, ↓reduceIte, reduceCtorEq, wrap_id, w_ite_ne, w_ite_lt, Nat.sub_zero, Nat.sub_self, q0, q1, ints_length, hge2]
        refine cond_d (fun hgap => ?_) (fun hgap => ?_) <;> try simp (disch := omega) only [go_sem, Int.reduceEq, Int.reduceLT, Int.reduceLE, Int.reduceToNat, Nat.reduceLT, Nat.reduceEqDiff, Nat.reduceAdd, Nat.reduceLeDiff, Nat.reduceSub, Nat.reduceMul, ↓reduceIte, reduceCtorEq, wrap_id, w_ite_ne, w_ite_lt, Nat.sub_zero, Nat.sub_self, q0, q1, q2]
        · exact zero 45 (by simp [takeR, hok, hfo, hst, hge]; omega)
        have hres : takeR r f = (⟨r.s, f.n + 1, r.m ++ upto r.n f.n⟩, f.l, 0) := by
          have : ¬ 256 < (r.m.length : Int) + f.n - r.n := by omega
          simp only [takeR, hok, hfo, hst, hge, this, if_true, if_false]
        rw [hres]
        obtain ⟨cn, hcn⟩ : ∃ cn : Nat, f.n - r.n = cn := ⟨(f.n - r.n).toNat, by omega⟩
        have hfn : f.n = r.n + cn := by omega
        refine awp_upG [11, 80, 81, 82, 83, 84, 85, 86, 87, 88, 89, 90, 91] (by kernel_rfl) cn (fun k e σ => e 11 = .int .i64 (r.n + k) ∧ σ.ob 1 = some ⟨1, 3, 36, false, true, [.agg [.int .i64 f.s, .int .i64 f.n, .list 4 (rds f.l)]]⟩ ∧ σ.ob 2 = some ⟨2, 3, 28, false, true, [.agg [.int .i64 0, .int .i64 0, .nil]]⟩ ∧
          ∃ X, σ.ob 3 = some ⟨3, 3, 28, false, true, [.agg [.int .i64 r.s, .int .i64 r.n, X]]⟩ ∧ SlR 1 3 σ (ints (r.m ++ upto r.n (r.n + k))) X ∧ ∀ j, j ≤ 3 → Oth X j) ?_ ?_
        · refine ⟨by try simp (disch := omega) only [go_sem, Int.reduceEq, Int.reduceLT, Int.reduceLE, Int.reduceToNat, Nat.reduceLT, Nat.reduceEqDiff, Nat.reduceAdd, Nat.reduceLeDiff, Nat.reduceSub, Nat.reduceMul, ↓reduceIte, reduceCtorEq, wrap_id, w_ite_ne, w_ite_lt, Nat.sub_zero, Nat.sub_self]; simp, q1, q2, X, q3, ?_, ho⟩
          have : upto r.n (r.n + (0 : Nat)) = [] := by simp [upto]
          rw [this, List.append_nil]; exact hR
        · rintro k fe ob' m' c' hk hm ⟨h11, q1, q2, X, q3, hR, ho⟩
          simp only at hm
          simp (maxSteps := 1000000) only [go_sem, Int.reduceEq, Int.reduceLT, Int.reduceLE, Int.reduceToNat, Nat.reduceLT, Nat.reduceEqDiff, Nat.reduceAdd, Nat.reduceLeDiff, Nat.reduceSub, Nat.reduceMul, ↓reduceIte, reduceCtorEq, w_app_nl] at h11 q1 q2 q3
          have hul := upto_length r.n k
          have hll : (r.m ++ upto r.n (r.n + k)).length ≤ 1000 := by rw [List.length_append, hul]; omega
          try simp (disch := omega) only [go_sem, Int.reduceEq, Int.reduceLT, Int.reduceLE, Int.reduceToNat, Nat.reduceLT, Nat.reduceEqDiff, Nat.reduceAdd, Nat.reduceLeDiff, Nat.reduceSub, Nat.reduceMul, ↓reduceIte, reduceCtorEq, wrap_id, w_ite_ne, w_ite_lt, Nat.sub_zero, Nat.sub_self, h11, q1]
          refine cond_d (fun hlt => ?_) (fun hge2 => ?_)
          · have hkc : k < cn := by omega
            try simp (disch := omega) only [go_sem, Int.reduceEq, Int.reduceLT, Int.reduceLE, Int.reduceToNat, Nat.reduceLT, Nat.reduceEqDiff, Nat.reduceAdd, Nat.reduceLeDiff, Nat.reduceSub, Nat.reduceMul, ↓reduceIte, reduceCtorEq, wrap_id, w_ite_ne, w_ite_lt, Nat.sub_zero, Nat.sub_self, h11, q3]
            refine app_slr hR (by rw [ints_length]; omega) (by rw [ints_length]; omega) fun X' τ hR' hK => ?_
            obtain ⟨ob2, m2, c2⟩ := τ
            have r1 := hK.2.1 1 (by simp only; omega) (ho 1 (by omega))
            have r2 := hK.2.1 2 (by simp only; omega) (ho 2 (by omega))
            have r3 := hK.2.1 3 (by simp only; omega) (ho 3 (by omega))
            have hmm := hK.1
            simp only [q1, q2, q3] at r1 r2 r3 hmm
            have ho' : ∀ j, j ≤ 3 → Oth X' j := fun j hj => hK.2.2 j (by simp only; omega) (ho j hj)
            try simp (disch := omega) only [go_sem, Int.reduceEq, Int.reduceLT, Int.reduceLE, Int.reduceToNat, Nat.reduceLT, Nat.reduceEqDiff, Nat.reduceAdd, Nat.reduceLeDiff, Nat.reduceSub, Nat.reduceMul, ↓reduceIte, reduceCtorEq, wrap_id, w_ite_ne, w_ite_lt, Nat.sub_zero, Nat.sub_self, h11, r3, hR'.one, hR'.flat, hR'.cells]
            repeat (refine And.intro (by first | omega | (rw [mxL]; omega) | (simp [maxLen]; done) | (simp [maxLen]; omega)) ?_)
            refine up_nextG m2 hkc (by omega) ⟨?_, ?_, ?_, X', (by first | ((try simp (maxSteps := 1000000) only [go_sem, Int.reduceEq, Int.reduceLT, Int.reduceLE, Int.reduceToNat, Nat.reduceLT, Nat.reduceEqDiff, Nat.reduceAdd, Nat.reduceLeDiff, Nat.reduceSub, Nat.reduceMul, ↓reduceIte, reduceCtorEq, w_app_nl]); done) | ((try simp (maxSteps := 1000000) only [go_sem, Int.reduceEq, Int.reduceLT, Int.reduceLE, Int.reduceToNat, Nat.reduceLT, Nat.reduceEqDiff, Nat.reduceAdd, Nat.reduceLeDiff, Nat.reduceSub, Nat.reduceMul, ↓reduceIte, reduceCtorEq, w_app_nl]); rfl) | ((try simp (maxSteps := 1000000) (disch := omega) only [go_sem, Int.reduceEq, Int.reduceLT, Int.reduceLE, Int.reduceToNat, Nat.reduceLT, Nat.reduceEqDiff, Nat.reduceAdd, Nat.reduceLeDiff, Nat.reduceSub, Nat.reduceMul, ↓reduceIte, reduceCtorEq, w_app_nl, wrap_id, w_ite_ne, w_ite_lt]); rfl) | (simp (maxSteps := 1000000) (disch := omega) only [go_sem, Int.reduceEq, Int.reduceLT, Int.reduceLE, Int.reduceToNat, Nat.reduceLT, Nat.reduceEqDiff, Nat.reduceAdd, Nat.reduceLeDiff, Nat.reduceSub, Nat.reduceMul, ↓reduceIte, reduceCtorEq, w_app_nl, wrap_id, w_ite_ne, w_ite_lt]; done)), ?_, ho'⟩
            · try simp (disch := omega) only [go_sem, Int.reduceEq, Int.reduceLT, Int.reduceLE, Int.reduceToNat, Nat.reduceLT, Nat.reduceEqDiff, Nat.reduceAdd, Nat.reduceLeDiff, Nat.reduceSub, Nat.reduceMul, ↓reduceIte, reduceCtorEq, wrap_id, w_ite_ne, w_ite_lt, Nat.sub_zero, Nat.sub_self]; congr 1; omega
            · try simp (disch := omega) only [go_sem, Int.reduceEq, Int.reduceLT, Int.reduceLE, Int.reduceToNat, Nat.reduceLT, Nat.reduceEqDiff, Nat.reduceAdd, Nat.reduceLeDiff, Nat.reduceSub, Nat.reduceMul, ↓reduceIte, reduceCtorEq, wrap_id, w_ite_ne, w_ite_lt, Nat.sub_zero, Nat.sub_self]; exact r1
            · try simp (disch := omega) only [go_sem, Int.reduceEq, Int.reduceLT, Int.reduceLE, Int.reduceToNat, Nat.reduceLT, Nat.reduceEqDiff, Nat.reduceAdd, Nat.reduceLeDiff, Nat.reduceSub, Nat.reduceMul, ↓reduceIte, reduceCtorEq, wrap_id, w_ite_ne, w_ite_lt, Nat.sub_zero, Nat.sub_self]; exact r2
            · rw [upto_succ, ← List.append_assoc, ← ints_append]
              refine hR'.move (by (try simp (maxSteps := 1000000) only [go_sem, Int.reduceEq, Int.reduceLT, Int.reduceLE, Int.reduceToNat, Nat.reduceLT, Nat.reduceEqDiff, Nat.reduceAdd, Nat.reduceLeDiff, Nat.reduceSub, Nat.reduceMul, ↓reduceIte, reduceCtorEq, w_app_nl]); omega) fun j hj hx => ?_
              have : ¬ j = 3 := fun e => hx (by rw [e]; exact ho' 3 (by omega))
              simp only at hj
              try simp (disch := omega) only [go_sem, Int.reduceEq, Int.reduceLT, Int.reduceLE, Int.reduceToNat, Nat.reduceLT, Nat.reduceEqDiff, Nat.reduceAdd, Nat.reduceLeDiff, Nat.reduceSub, Nat.reduceMul, ↓reduceIte, reduceCtorEq, wrap_id, w_ite_ne, w_ite_lt, Nat.sub_zero, Nat.sub_self]
          · have hkc : k = cn := by omega
            subst hkc
            rw [← hfn] at hR
            have o3 := ho 3 (by omega)
            try simp (disch := omega) only [go_sem, Int.reduceEq, Int.reduceLT, Int.reduceLE, Int.reduceToNat, Nat.reduceLT, Nat.reduceEqDiff, Nat.reduceAdd, Nat.reduceLeDiff, Nat.reduceSub, Nat.reduceMul, ↓reduceIte, reduceCtorEq, wrap_id, w_ite_ne, w_ite_lt, Nat.sub_zero, Nat.sub_self, q1, q3]
            have hR := hR.move (τ := ⟨upd ob' 3 (some ⟨3, 3, 28, false, true, [.agg [.int .i64 r.s, .int .i64 (f.n + 1), X]]⟩), m', c'⟩) (Nat.le_refl _) (fun q hq hx => by
              have : ¬ q = 3 := fun e => hx (by rw [e]; exact o3)
              try simp (disch := omega) only [go_sem, Int.reduceEq, Int.reduceLT, Int.reduceLE, Int.reduceToNat, Nat.reduceLT, Nat.reduceEqDiff, Nat.reduceAdd, Nat.reduceLeDiff, Nat.reduceSub, Nat.reduceMul, ↓reduceIte, reduceCtorEq, wrap_id, w_ite_ne, w_ite_lt, Nat.sub_zero, Nat.sub_self])
            refine app_slrs (es := 4) (b := 32) (L := []) (M := rds f.l) .nil (by rw [rds_length]; simp; omega) (by rw [rds_length]; simp; omega) fun X' τ hR' hK => ?_
            obtain ⟨ob2, m2, c2⟩ := τ
            have e1 := hK.2.1 1 (by simp only; omega) (Oth.nil _)
            have e2 := hK.2.1 2 (by simp only; omega) (Oth.nil _)
            have e3 := hK.2.1 3 (by simp only; omega) (Oth.nil _)
            try simp (disch := omega) only [go_sem, Int.reduceEq, Int.reduceLT, Int.reduceLE, Int.reduceToNat, Nat.reduceLT, Nat.reduceEqDiff, Nat.reduceAdd, Nat.reduceLeDiff, Nat.reduceSub, Nat.reduceMul, ↓reduceIte, reduceCtorEq, wrap_id, w_ite_ne, w_ite_lt, Nat.sub_zero, Nat.sub_self, q1, q2, q3] at e1 e2 e3
            try simp (disch := omega) only [go_sem, Int.reduceEq, Int.reduceLT, Int.reduceLE, Int.reduceToNat, Nat.reduceLT, Nat.reduceEqDiff, Nat.reduceAdd, Nat.reduceLeDiff, Nat.reduceSub, Nat.reduceMul, ↓reduceIte, reduceCtorEq, wrap_id, w_ite_ne, w_ite_lt, Nat.sub_zero, Nat.sub_self, e1, e2, e3, q1, q3, hR.one, hR.flat, hR.cells]
            have hX := hR.pub (τ := ⟨upd ob2 2 (some ⟨2, 3, 28, false, true, [.agg [.int .i64 r.s, .int .i64 (f.n + 1), X]]⟩), m2, c2⟩) (fun q hq hx => by
              have : ¬ q = 2 := fun e => hx (by rw [e]; exact ho 2 (by omega))
              try simp (disch := omega) only [go_sem, Int.reduceEq, Int.reduceLT, Int.reduceLE, Int.reduceToNat, Nat.reduceLT, Nat.reduceEqDiff, Nat.reduceAdd, Nat.reduceLeDiff, Nat.reduceSub, Nat.reduceMul, ↓reduceIte, reduceCtorEq, wrap_id, w_ite_ne, w_ite_lt, Nat.sub_zero, Nat.sub_self]
              exact hK.2.1 q hq (Oth.nil _)) (ints_pur _) (ints_ok _)
            refine Pub.three (Pub.agg3 (Pub.of_eq rfl rfl) (Pub.of_eq rfl rfl) hX) (hR'.pub (fun q hq hx => ?_) (rds_pur _) (rds_ok _)) (Pub.of_eq rfl rfl)
            have : ¬ q = 2 := fun e => hx (by rw [e]; exact hK.2.2 2 (by simp only; omega) (Oth.nil _))
            try simp (disch := omega) only [go_sem, Int.reduceEq, Int.reduceLT, Int.reduceLE, Int.reduceToNat, Nat.reduceLT, Nat.reduceEqDiff, Nat.reduceAdd, Nat.reduceLeDiff, Nat.reduceSub, Nat.reduceMul, ↓reduceIte, reduceCtorEq, wrap_id, w_ite_ne, w_ite_lt, Nat.sub_zero, Nat.sub_self]
theorem rcv_nl (s n : Int) : NlR (.agg [.int .i64 s, .int .i64 n, .nil]) (rcv ⟨s, n, []⟩) := .agg (.cons .rfl (.cons .rfl (.cons (.nil 1) .nil)))
theorem frv_nl (s n : Int) : NlR (.agg [.int .i64 s, .int .i64 n, .nil]) (frv ⟨s, n, []⟩) := .agg (.cons .rfl (.cons .rfl (.cons (.nil 4) .nil)))
theorem frv_one (s n : Int) (r : Rd) : AV.agg [.int .i64 s, .int .i64 n, .list 4 [rdv r]] = frv ⟨s, n, [r]⟩ := rfl
theorem ok_ref28_Same (a b : Rc) (ha : a.m.length ≤ 9223372036854775807) : PC prog n_ref28_Same [rcv a, rcv b] (.bool (decide (a = b))) := by
  refine PC_of_body b_ref28_Same (by simp) ?_
  simp only [c_ref28_Same, go_sem, Int.reduceEq, Int.reduceLT, Int.reduceLE, Int.reduceToNat, Nat.reduceLT, Nat.reduceEqDiff, Nat.reduceAdd, Nat.reduceLeDiff, Nat.reduceSub, Nat.reduceMul, ↓reduceIte, reduceCtorEq, w_app_nl, rcv]
  have no : ∀ {σ : St}, a ≠ b → Pub σ (.bool false) (.bool (decide (a = b))) := fun h => Pub.of_eq (by simp [h]) rfl
  refine gd_fn rfl (fun h1 => ?_) (fun h1 => ?_) <;> try simp (disch := omega) only [go_sem, Int.reduceEq, Int.reduceLT, Int.reduceLE, Int.reduceToNat, Nat.reduceLT, Nat.reduceEqDiff, Nat.reduceAdd, Nat.reduceLeDiff, Nat.reduceSub, Nat.reduceMul, ↓reduceIte, reduceCtorEq, wrap_id, w_ite_ne, w_ite_lt, Nat.sub_zero, Nat.sub_self]
  · exact no fun h => h1 (by rw [h])
  refine gd_fn rfl (fun h2 => ?_) (fun h2 => ?_) <;> try simp (disch := omega) only [go_sem, Int.reduceEq, Int.reduceLT, Int.reduceLE, Int.reduceToNat, Nat.reduceLT, Nat.reduceEqDiff, Nat.reduceAdd, Nat.reduceLeDiff, Nat.reduceSub, Nat.reduceMul, ↓reduceIte, reduceCtorEq, wrap_id, w_ite_ne, w_ite_lt, Nat.sub_zero, Nat.sub_self, ints_length]
  · exact no fun h => h2 (by rw [h])
  refine cond_n (fun h3 => ?_) (fun h3 => ?_) <;> try simp (disch := omega) only [go_sem, Int.reduceEq, Int.reduceLT, Int.reduceLE, Int.reduceToNat, Nat.reduceLT, Nat.reduceEqDiff, Nat.reduceAdd, Nat.reduceLeDiff, Nat.reduceSub, Nat.reduceMul, ↓reduceIte, reduceCtorEq, wrap_id, w_ite_ne, w_ite_lt, Nat.sub_zero, Nat.sub_self, ints_length]
  · exact no fun h => h3 (by rw [h])
  have hl : a.m.length = b.m.length := by omega
  refine awp_upF [4, 5, 30, 31, 32, 33, 34, 35, 36, 37, 38, 39, 40, 41, 42, 43, 44] (by kernel_rfl) a.m.length (fun k e σ => e 30 = .int .i64 k ∧ σ.ob 0 = some ⟨0, 3, 28, false, true, [rcv a]⟩ ∧ σ.ob 1 = some ⟨1, 3, 28, false, true, [rcv b]⟩ ∧ ∀ j, j < k → a.m[j]? = b.m[j]?) ?_ ?_
  · exact ⟨(by first | ((try simp (maxSteps := 1000000) only [go_sem, Int.reduceEq, Int.reduceLT, Int.reduceLE, Int.reduceToNat, Nat.reduceLT, Nat.reduceEqDiff, Nat.reduceAdd, Nat.reduceLeDiff, Nat.reduceSub, Nat.reduceMul, ↓reduceIte, reduceCtorEq, w_app_nl]); done) | ((try simp (maxSteps := 1000000) only [go_sem, Int.reduceEq, Int.reduceLT, Int.reduceLE, Int.reduceToNat, Nat.reduceLT, Nat.reduceEqDiff, Nat.reduceAdd, Nat.reduceLeDiff, Nat.reduceSub, Nat.reduceMul, ↓reduceIte, reduceCtorEq, w_app_nl]); rfl) | ((try simp (maxSteps := 1000000) (disch := omega) only [go_sem, Int.reduceEq, Int.reduceLT, Int.reduceLE, Int.reduceToNat, Nat.reduceLT, Nat.reduceEqDiff, Nat.reduceAdd, Nat.reduceLeDiff, Nat.reduceSub, Nat.reduceMul, ↓reduceIte, reduceCtorEq, w_app_nl, wrap_id, w_ite_ne, w_ite_lt]); rfl) | (simp (maxSteps := 1000000) (disch := omega) only [go_sem, Int.reduceEq, Int.reduceLT, Int.reduceLE, Int.reduceToNat, Nat.reduceLT, Nat.reduceEqDiff, Nat.reduceAdd, Nat.reduceLeDiff, Nat.reduceSub, Nat.reduceMul, ↓reduceIte, reduceCtorEq, w_app_nl, wrap_id, w_ite_ne, w_ite_lt]; done)), (by first | ((try simp (maxSteps := 1000000) only [go_sem, Int.reduceEq, Int.reduceLT, Int.reduceLE, Int.reduceToNat, Nat.reduceLT, Nat.reduceEqDiff, Nat.reduceAdd, Nat.reduceLeDiff, Nat.reduceSub, Nat.reduceMul, ↓reduceIte, reduceCtorEq, w_app_nl]); done) | ((try simp (maxSteps := 1000000) only [go_sem, Int.reduceEq, Int.reduceLT, Int.reduceLE, Int.reduceToNat, Nat.reduceLT, Nat.reduceEqDiff, Nat.reduceAdd, Nat.reduceLeDiff, Nat.reduceSub, Nat.reduceMul, ↓reduceIte, reduceCtorEq, w_app_nl]); rfl) | ((try simp (maxSteps := 1000000) (disch := omega) only [go_sem, Int.reduceEq, Int.reduceLT, Int.reduceLE, Int.reduceToNat, Nat.reduceLT, Nat.reduceEqDiff, Nat.reduceAdd, Nat.reduceLeDiff, Nat.reduceSub, Nat.reduceMul, ↓reduceIte, reduceCtorEq, w_app_nl, wrap_id, w_ite_ne, w_ite_lt]); rfl) | (simp (maxSteps := 1000000) (disch := omega) only [go_sem, Int.reduceEq, Int.reduceLT, Int.reduceLE, Int.reduceToNat, Nat.reduceLT, Nat.reduceEqDiff, Nat.reduceAdd, Nat.reduceLeDiff, Nat.reduceSub, Nat.reduceMul, ↓reduceIte, reduceCtorEq, w_app_nl, wrap_id, w_ite_ne, w_ite_lt]; done)), (by first | ((try simp (maxSteps := 1000000) only [go_sem, Int.reduceEq, Int.reduceLT, Int.reduceLE, Int.reduceToNat, Nat.reduceLT, Nat.reduceEqDiff, Nat.reduceAdd, Nat.reduceLeDiff, Nat.reduceSub, Nat.reduceMul, ↓reduceIte, reduceCtorEq, w_app_nl]); done) | ((try simp (maxSteps := 1000000) only [go_sem, Int.reduceEq, Int.reduceLT, Int.reduceLE, Int.reduceToNat, Nat.reduceLT, Nat.reduceEqDiff, Nat.reduceAdd, Nat.reduceLeDiff, Nat.reduceSub, Nat.reduceMul, ↓reduceIte, reduceCtorEq, w_app_nl]); rfl) | ((try simp (maxSteps := 1000000) (disch := omega) only [go_sem, Int.reduceEq, Int.reduceLT, Int.reduceLE, Int.reduceToNat, Nat.reduceLT, Nat.reduceEqDiff, Nat.reduceAdd, Nat.reduceLeDiff, Nat.reduceSub, Nat.reduceMul, ↓reduceIte, reduceCtorEq, w_app_nl, wrap_id, w_ite_ne, w_ite_lt]); rfl) | (simp (maxSteps := 1000000) (disch := omega) only [go_sem, Int.reduceEq, Int.reduceLT, Int.reduceLE, Int.reduceToNat, Nat.reduceLT, Nat.reduceEqDiff, Nat.reduceAdd, Nat.reduceLeDiff, Nat.reduceSub, Nat.reduceMul, ↓reduceIte, reduceCtorEq, w_app_nl, wrap_id, w_ite_ne, w_ite_lt]; done)), by simp⟩
  · rintro k fe ob c hk ⟨h30, q0, q1, hj⟩
    simp (maxSteps := 1000000) only [go_sem, Int.reduceEq, Int.reduceLT, Int.reduceLE, Int.reduceToNat, Nat.reduceLT, Nat.reduceEqDiff, Nat.reduceAdd, Nat.reduceLeDiff, Nat.reduceSub, Nat.reduceMul, ↓reduceIte, reduceCtorEq, w_app_nl, rcv] at h30 q0 q1
    try simp (disch := omega) only [go_sem, Int.reduceEq, Int.reduceLT, Int.reduceLE, Int.reduceToNat, Nat.reduceLT, Nat.reduceEqDiff, Nat.reduceAdd, Nat.reduceLeDiff, Nat.reduceSub, Nat.reduceMul, ↓reduceIte, reduceCtorEq, wrap_id, w_ite_ne, w_ite_lt, Nat.sub_zero, Nat.sub_self, h30, ints_length]
    refine cond_d (fun hlt => ?_) (fun hge => ?_)
    · have hka : k < a.m.length := by omega
      have hga : a.m[k]? = some a.m[k] := List.getElem?_eq_getElem hka
      have hgb : b.m[k]? = some b.m[k] := List.getElem?_eq_getElem (by omega)
      try simp (disch := omega) only [go_sem, Int.reduceEq, Int.reduceLT, Int.reduceLE, Int.reduceToNat, Nat.reduceLT, Nat.reduceEqDiff, Nat.reduceAdd, Nat.reduceLeDiff, Nat.reduceSub, Nat.reduceMul, ↓reduceIte, reduceCtorEq, wrap_id, w_ite_ne, w_ite_lt, Nat.sub_zero, Nat.sub_self, h30, q0, q1, ints_length, ints_get, hga, hgb]
      repeat (refine And.intro (by first | omega | (rw [mxL]; omega) | (simp [maxLen]; done) | (simp [maxLen]; omega)) ?_)
      refine cond_n (fun hne => ?_) (fun heq => ?_) <;> try simp (disch := omega) only [go_sem, Int.reduceEq, Int.reduceLT, Int.reduceLE, Int.reduceToNat, Nat.reduceLT, Nat.reduceEqDiff, Nat.reduceAdd, Nat.reduceLeDiff, Nat.reduceSub, Nat.reduceMul, ↓reduceIte, reduceCtorEq, wrap_id, w_ite_ne, w_ite_lt, Nat.sub_zero, Nat.sub_self, h30]
      · refine no fun h => hne ?_
        subst h; rfl
      · refine up_next hka ⟨(by first | ((try simp (maxSteps := 1000000) only [go_sem, Int.reduceEq, Int.reduceLT, Int.reduceLE, Int.reduceToNat, Nat.reduceLT, Nat.reduceEqDiff, Nat.reduceAdd, Nat.reduceLeDiff, Nat.reduceSub, Nat.reduceMul, ↓reduceIte, reduceCtorEq, w_app_nl]); done) | ((try simp (maxSteps := 1000000) only [go_sem, Int.reduceEq, Int.reduceLT, Int.reduceLE, Int.reduceToNat, Nat.reduceLT, Nat.reduceEqDiff, Nat.reduceAdd, Nat.reduceLeDiff, Nat.reduceSub, Nat.reduceMul, ↓reduceIte, reduceCtorEq, w_app_nl]); rfl) | ((try simp (maxSteps := 1000000) (disch := omega) only [go_sem, Int.reduceEq, Int.reduceLT, Int.reduceLE, Int.reduceToNat, Nat.reduceLT, Nat.reduceEqDiff, Nat.reduceAdd, Nat.reduceLeDiff, Nat.reduceSub, Nat.reduceMul, ↓reduceIte, reduceCtorEq, w_app_nl, wrap_id, w_ite_ne, w_ite_lt]); rfl) | (simp (maxSteps := 1000000) (disch := omega) only [go_sem, Int.reduceEq, Int.reduceLT, Int.reduceLE, Int.reduceToNat, Nat.reduceLT, Nat.reduceEqDiff, Nat.reduceAdd, Nat.reduceLeDiff, Nat.reduceSub, Nat.reduceMul, ↓reduceIte, reduceCtorEq, w_app_nl, wrap_id, w_ite_ne, w_ite_lt]; done)), by try simp (disch := omega) only [go_sem, Int.reduceEq, Int.reduceLT, Int.reduceLE, Int.reduceToNat, Nat.reduceLT, Nat.reduceEqDiff, Nat.reduceAdd, Nat.reduceLeDiff, Nat.reduceSub, Nat.reduceMul, ↓reduceIte, reduceCtorEq, wrap_id, w_ite_ne, w_ite_lt, Nat.sub_zero, Nat.sub_self]; exact q0, by try simp (disch := omega) only [go_sem, Int.reduceEq, Int.reduceLT, Int.reduceLE, Int.reduceToNat, Nat.reduceLT, Nat.reduceEqDiff, Nat.reduceAdd, Nat.reduceLeDiff, Nat.reduceSub, Nat.reduceMul, ↓reduceIte, reduceCtorEq, wrap_id, w_ite_ne, w_ite_lt, Nat.sub_zero, Nat.sub_self]; exact q1, ?_⟩
        intro j hj'
        by_cases e : j = k
        · subst e; rw [hga, hgb, heq]
        · exact hj j (by omega)
    · try simp (disch := omega) only [go_sem, Int.reduceEq, Int.reduceLT, Int.reduceLE, Int.reduceToNat, Nat.reduceLT, Nat.reduceEqDiff, Nat.reduceAdd, Nat.reduceLeDiff, Nat.reduceSub, Nat.reduceMul, ↓reduceIte, reduceCtorEq, wrap_id, w_ite_ne, w_ite_lt, Nat.sub_zero, Nat.sub_self]
      refine Pub.of_eq ?_ rfl
      have h4 : a.m = b.m := eq_of_get hl fun j hj' => hj j (by omega)
      have : a = b := by cases a; cases b; simp_all
      simp [this]
theorem ok_law28_sane : PC prog n_law28_sane [] (.bool true) := by
  refine PC_of_body b_law28_sane (by simp) ?_
  simp only [c_law28_sane, go_sem, Int.reduceEq, Int.reduceLT, Int.reduceLE, Int.reduceToNat, Nat.reduceLT, Nat.reduceEqDiff, Nat.reduceAdd, Nat.reduceLeDiff, Nat.reduceSub, Nat.reduceMul, ↓reduceIte, reduceCtorEq, w_app_nl]
  have t1 : takeR ⟨1, 1, []⟩ ⟨1, 1, [⟨2, 3, 4, 0⟩]⟩ = (⟨1, 2, []⟩, [⟨2, 3, 4, 0⟩], 0) := by decide +kernel
  have t2 : takeR ⟨1, 2, []⟩ ⟨1, 4, []⟩ = (⟨1, 5, [2, 3]⟩, [], 0) := by decide +kernel
  have t3 : askR ⟨1, 5, [2, 3]⟩ 9 = ([2, 3], 0) := by decide +kernel
  have t4 : rcE ⟨1, 5, [2, 3]⟩ = 0 := by decide +kernel
  have t5 : sumS ⟨#[87, 105, 107, 105, 112, 101, 100, 105, 97]⟩ = 300286872 := by decide +kernel
  refine call_pc (pc_nl (ok_telemetry_Take ⟨1, 1, []⟩ ⟨1, 1, [⟨2, 3, 4, 0⟩]⟩ (by simp) (by simp)) (.cons (rcv_nl 1 1) (.cons .rfl .nil))) (by simp [go_sem]) ?_
  try simp (disch := omega) only [go_sem, Int.reduceEq, Int.reduceLT, Int.reduceLE, Int.reduceToNat, Nat.reduceLT, Nat.reduceEqDiff, Nat.reduceAdd, Nat.reduceLeDiff, Nat.reduceSub, Nat.reduceMul, ↓reduceIte, reduceCtorEq, wrap_id, w_ite_ne, w_ite_lt, Nat.sub_zero, Nat.sub_self, t1, rcv]
  refine call_pc (pc_nl (ok_telemetry_Take ⟨1, 2, []⟩ ⟨1, 4, []⟩ (by simp) (by simp)) (.cons .rfl (.cons (frv_nl 1 4) .nil))) (by simp [go_sem]) ?_
  try simp (disch := omega) only [go_sem, Int.reduceEq, Int.reduceLT, Int.reduceLE, Int.reduceToNat, Nat.reduceLT, Nat.reduceEqDiff, Nat.reduceAdd, Nat.reduceLeDiff, Nat.reduceSub, Nat.reduceMul, ↓reduceIte, reduceCtorEq, wrap_id, w_ite_ne, w_ite_lt, Nat.sub_zero, Nat.sub_self, t2, rcv]
  refine call_pc (ok_telemetry_Ask ⟨1, 5, [2, 3]⟩ 9 (by simp)) (by simp [go_sem, rcv]) ?_
  try simp (disch := omega) only [go_sem, Int.reduceEq, Int.reduceLT, Int.reduceLE, Int.reduceToNat, Nat.reduceLT, Nat.reduceEqDiff, Nat.reduceAdd, Nat.reduceLeDiff, Nat.reduceSub, Nat.reduceMul, ↓reduceIte, reduceCtorEq, wrap_id, w_ite_ne, w_ite_lt, Nat.sub_zero, Nat.sub_self, t3, rds, ints, rdv]
  refine call_pc (ok_telemetry_Sum _ (by decide +kernel)) (by simp [go_sem]) ?_
  try simp (disch := omega) only [go_sem, Int.reduceEq, Int.reduceLT, Int.reduceLE, Int.reduceToNat, Nat.reduceLT, Nat.reduceEqDiff, Nat.reduceAdd, Nat.reduceLeDiff, Nat.reduceSub, Nat.reduceMul, ↓reduceIte, reduceCtorEq, wrap_id, w_ite_ne, w_ite_lt, Nat.sub_zero, Nat.sub_self, t5]
  refine call_pc (ok_telemetry_Check ⟨1, 5, [2, 3]⟩ (by simp)) (by simp [go_sem, rcv]) ?_
  try simp (disch := omega) only [go_sem, Int.reduceEq, Int.reduceLT, Int.reduceLE, Int.reduceToNat, Nat.reduceLT, Nat.reduceEqDiff, Nat.reduceAdd, Nat.reduceLeDiff, Nat.reduceSub, Nat.reduceMul, ↓reduceIte, reduceCtorEq, wrap_id, w_ite_ne, w_ite_lt, Nat.sub_zero, Nat.sub_self, t4]
  exact Pub.of_eq rfl rfl
/-! a frame is read back; a changed byte is found -/
def sumL (l : List Int) : Int := 65536 * (sumGo l 1 0).2 + (sumGo l 1 0).1
theorem sumS_sb (s : ByteArray) : sumS s = sumL (sb s) := rfl
theorem sumGo_bd : ∀ (l : List Int) (a b : Int), 0 ≤ a → a < 65521 → 0 ≤ b → b < 65521 → 0 ≤ (sumGo l a b).1 ∧ (sumGo l a b).1 < 65521 ∧ 0 ≤ (sumGo l a b).2 ∧ (sumGo l a b).2 < 65521
  | [], a, b, h1, h2, h3, h4 => ⟨h1, h2, h3, h4⟩
  | x :: l, a, b, h1, h2, h3, h4 => by
    simp only [sumGo]
    exact sumGo_bd l _ _ (Int.emod_nonneg _ (by decide)) (Int.emod_lt_of_pos _ (by decide)) (Int.emod_nonneg _ (by decide)) (Int.emod_lt_of_pos _ (by decide))
theorem sumGo_sum : ∀ (l : List Int) (a b : Int), (sumGo l a b).1 % 65521 = (a + l.sum) % 65521
  | [], a, b => by simp [sumGo]
  | x :: l, a, b => by
    simp only [sumGo, List.sum_cons]
    rw [sumGo_sum l, Int.emod_add_emod, Int.add_assoc]
theorem sumL_bd (l : List Int) : 0 ≤ sumL l ∧ sumL l < 4294967296 := by
  have := sumGo_bd l 1 0 (by omega) (by omega) (by omega) (by omega)
  unfold sumL; omega
theorem sum_set : ∀ (l : List Int) (k : Nat) (y : Int) (h : k < l.length), (l.set k y).sum = l.sum - l[k] + y
  | x :: l, 0, y, h => by simp; omega
  | x :: l, k + 1, y, h => by
    have := sum_set l k y (by simpa using h)
    simp only [List.set_cons_succ, List.sum_cons, List.getElem_cons_succ]
    omega
theorem sumL_set (l : List Int) (k : Nat) (y : Int) (h : k < l.length) (h0 : 0 ≤ l[k] ∧ l[k] ≤ 255) (hy : 0 ≤ y ∧ y ≤ 255) (hne : l[k] ≠ y) : sumL (l.set k y) ≠ sumL l := by
  have b1 := sumGo_bd l 1 0 (by omega) (by omega) (by omega) (by omega)
  have b2 := sumGo_bd (l.set k y) 1 0 (by omega) (by omega) (by omega) (by omega)
  have s1 := sumGo_sum l 1 0
  have s2 := sumGo_sum (l.set k y) 1 0
  rw [sum_set l k y h] at s2
  unfold sumL
  omega
theorem getL_putB : ∀ (k : Nat) (n : Int), 0 ≤ n → n < 256 ^ k → getL (putB n k) = n
  | 0, n, h0, h1 => by simp at h1; simp [putB, getL]; omega
  | k + 1, n, h0, h1 => by
    rw [Int.pow_succ] at h1
    simp only [putB, getL]
    rw [getL_putB k (n / 256) (by omega) (by omega)]
    omega
theorem getL_set : ∀ (l : List Int) (j : Nat) (y : Int) (h : j < l.length), getL (l.set j y) = getL l + 256 ^ j * (y - l[j])
  | x :: l, 0, y, h => by simp [getL]; omega
  | x :: l, j + 1, y, h => by
    have := getL_set l j y (by simpa using h)
    simp only [List.set_cons_succ, getL, this, List.getElem_cons_succ, Int.pow_succ]
    rw [Int.mul_add, Int.add_assoc, Int.mul_comm (256 ^ j) 256, Int.mul_assoc]
theorem sb_extract (s : ByteArray) (n : Nat) : sb (s.extract 0 n) = (sb s).take n := by
  rw [sb, ByteArray.data_extract]; simp [sb, List.map_take]
theorem getL_pre {a r : List Int} {n : Int} {k : Nat} (h0 : 0 ≤ n) (h1 : n < 256 ^ k) (h : a = putB n k ++ r) : getL (a.take k) = n := by
  subst h
  rw [List.take_append_of_le_length (by rw [putB_length]; exact Nat.le_refl _), List.take_of_length_le (by rw [putB_length]; exact Nat.le_refl _), getL_putB k n h0 h1]
theorem rds_drop : ∀ (l : List Rd) (i : Nat), (l.flatMap rdB).drop (12 * i) = (l.drop i).flatMap rdB
  | l, 0 => by simp
  | [], i + 1 => by simp
  | x :: l, i + 1 => by
    simp only [List.flatMap_cons, List.drop_succ_cons]
    rw [show 12 * (i + 1) = (rdB x).length + 12 * i by rw [rdB_length]; omega, List.drop_append, List.drop_of_length_le (by omega), List.nil_append, Nat.add_sub_cancel_left, rds_drop l i]
/-- the bytes of a frame -/
def frA (f : Fr) : List Int := frB f ++ putB (sumL (frB f)) 4
theorem frB_length (f : Fr) : (frB f).length = 6 + 12 * f.l.length := by rw [frB_parts]; simp only [List.length_append, putB_length, rdsB_length]
theorem frA_length (f : Fr) : (frA f).length = 10 + 12 * f.l.length := by unfold frA; rw [List.length_append, frB_length, putB_length]; omega
theorem frA_bd (f : Fr) : ∀ x ∈ frA f, 0 ≤ x ∧ x ≤ 255 := by
  intro x hx
  simp only [frA, frB_parts, rdB, List.mem_append, List.mem_flatMap] at hx
  rcases hx with (((hx | hx) | hx) | ⟨r, _, hx⟩) | hx
  · exact putB_bd _ _ x hx
  · exact putB_bd _ _ x hx
  · exact putB_bd _ _ x hx
  · rcases hx with ((hx | hx) | hx) | hx <;> exact putB_bd _ _ x hx
  · exact putB_bd _ _ x hx
theorem frB_bd (f : Fr) : ∀ x ∈ frB f, 0 ≤ x ∧ x ≤ 255 := fun x hx => frA_bd f x (List.mem_append_left _ hx)
theorem sb_encS (f : Fr) : sb (encS f) = frA f := by
  unfold encS frA
  rw [sb_append, sb_bs _ (frB_bd f), sb_bs _ (putB_bd _ _), sumS_sb, sb_bs _ (frB_bd f)]
theorem encS_size (f : Fr) : (encS f).size = 10 + 12 * f.l.length := by rw [← sb_length, sb_encS, frA_length]
theorem frA_split (f : Fr) : frA f = putB f.s 1 ++ (putB f.n 4 ++ (putB f.l.length 1 ++ (f.l.flatMap rdB ++ putB (sumL (frB f)) 4))) := by unfold frA; rw [frB_parts]; simp
theorem frA_five (f : Fr) (h : f.l.length ≤ 255) : (frA f).getD 5 0 = f.l.length := by
  rw [frA_split]
  simp only [putB, List.cons_append, List.nil_append, List.getD_cons_succ, List.getD_cons_zero]
  omega
theorem frA_body (f : Fr) : (frA f).take ((frA f).length - 4) = frB f := by
  rw [frA_length]
  unfold frA
  rw [List.take_append_of_le_length (by rw [frB_length]; omega), List.take_of_length_le (by rw [frB_length]; omega)]
theorem frA_tail (f : Fr) : (frA f).drop ((frA f).length - 4) = putB (sumL (frB f)) 4 := by
  rw [frA_length]
  unfold frA
  rw [List.drop_append, List.drop_of_length_le (by rw [frB_length]; omega), List.nil_append, frB_length, show 10 + 12 * f.l.length - 4 - (6 + 12 * f.l.length) = 0 by omega, List.drop_zero]
theorem rdOk_parts {x : Rd} (h : rdOk x = true) : (0 ≤ x.g ∧ x.g ≤ 65535) ∧ (0 ≤ x.t ∧ x.t ≤ 16777216) ∧ (0 ≤ x.v ∧ x.v ≤ 274877906944) ∧ (0 ≤ x.f ∧ x.f ≤ 2) := by
  simp only [rdOk, inB, Bool.and_eq_true, decide_eq_true_eq] at h
  omega
theorem rdAt_frA (f : Fr) (i : Nat) (hi : i < f.l.length) (h : rdOk f.l[i] = true) : rdAt (encS f) (6 + 12 * i) = f.l[i] := by
  obtain ⟨h1, h2, h3, h4⟩ := rdOk_parts h
  have hd : (frA f).drop (6 + 12 * i) = rdB f.l[i] ++ ((f.l.drop (i + 1)).flatMap rdB ++ putB (sumL (frB f)) 4) := by
    have hP : (putB f.s 1 ++ putB f.n 4 ++ putB (f.l.length : Int) 1).length = 6 := by simp [putB_length]
    have h6 : frA f = (putB f.s 1 ++ putB f.n 4 ++ putB (f.l.length : Int) 1) ++ (f.l.flatMap rdB ++ putB (sumL (frB f)) 4) := by rw [frA_split]; simp
    rw [h6, ← List.drop_drop, List.drop_left' hP, List.drop_append, rds_drop, rdsB_length, show 12 * i - 12 * f.l.length = 0 by omega, List.drop_zero, List.drop_eq_getElem_cons hi, List.flatMap_cons, List.append_assoc]
  have hd2 : ∀ k r, rdB f.l[i] = r ++ (rdB f.l[i]).drop k → r.length = k → (frA f).drop (6 + 12 * i + k) = (rdB f.l[i]).drop k ++ ((f.l.drop (i + 1)).flatMap rdB ++ putB (sumL (frB f)) 4) := by
    intro k r hr hk
    rw [← List.drop_drop, hd, List.drop_append_of_le_length]
    rw [rdB_length]
    have := congrArg List.length hr
    rw [List.length_append, List.length_drop, rdB_length] at this
    omega
  generalize f.l[i] = x at *
  have e0 : rdB x = putB x.g 2 ++ (putB x.t 4 ++ (putB x.v 5 ++ putB x.f 1)) := by simp [rdB]
  have d2 : (rdB x).drop 2 = putB x.t 4 ++ (putB x.v 5 ++ putB x.f 1) := by rw [e0]; exact List.drop_left' (putB_length _ _)
  have d6 : (rdB x).drop 6 = putB x.v 5 ++ putB x.f 1 := by rw [show 6 = 2 + 4 from rfl, ← List.drop_drop, d2]; exact List.drop_left' (putB_length _ _)
  have d11 : (rdB x).drop 11 = putB x.f 1 := by rw [show 11 = 6 + 5 from rfl, ← List.drop_drop, d6]; exact List.drop_left' (putB_length _ _)
  unfold rdAt getS
  rw [sb_encS]
  have g0 := getL_pre (a := (frA f).drop (6 + 12 * i)) (n := x.g) (k := 2) h1.1 (by omega) (by rw [hd, e0, List.append_assoc])
  have g1 := getL_pre (a := (frA f).drop (6 + 12 * i + 2)) (n := x.t) (k := 4) h2.1 (by omega) (by rw [hd2 2 (putB x.g 2) (by rw [d2]; exact e0) (putB_length _ _), d2, List.append_assoc])
  have g2 := getL_pre (a := (frA f).drop (6 + 12 * i + 6)) (n := x.v) (k := 5) h3.1 (by omega) (by rw [hd2 6 (putB x.g 2 ++ putB x.t 4) (by rw [d6, e0]; simp) (by simp [putB_length]), d6, List.append_assoc])
  have g3 := getL_pre (a := (frA f).drop (6 + 12 * i + 11)) (n := x.f) (k := 1) h4.1 (by omega) (by rw [hd2 11 (putB x.g 2 ++ putB x.t 4 ++ putB x.v 5) (by rw [d11, e0]; simp) (by simp [putB_length]), d11])
  rw [g0, g1, g2, g3]
theorem back_ok (f : Fr) (h : frOk f = true) : decR (encS f) = (f, 0) := by
  obtain ⟨h1, h2, h3, h4, h5⟩ := frOk_parts h
  have hall : ∀ x ∈ f.l, rdOk x = true := by
    simp only [frOk, Bool.and_eq_true, List.all_eq_true] at h
    exact h.2
  have hsz := encS_size f
  have h5' := frA_five f (by omega)
  have hat : frAt (encS f) = f := by
    unfold frAt getS rdsAt
    rw [sb_encS, h5', List.drop_zero]
    have e1 := getL_pre (a := frA f) (n := f.s) (k := 1) h1 (by omega) (frA_split f)
    have e2 := getL_pre (a := (frA f).drop 1) (n := f.n) (k := 4) (by omega) (by omega) (by rw [frA_split f]; exact List.drop_left' (putB_length _ _))
    rw [e1, e2]
    have e3 : (List.range (f.l.length : Int).toNat).map (fun i => rdAt (encS f) (6 + 12 * i)) = f.l := by
      apply List.ext_getElem
      · simp
      · intro i hi hi'
        simp only [List.getElem_map, List.getElem_range]
        exact rdAt_frA f i hi' (hall _ (List.getElem_mem hi'))
    rw [e3]
  have hs := sumL_bd (frB f)
  have hsum : getS (encS f) ((encS f).size - 4) 4 = sumS ((encS f).extract 0 ((encS f).size - 4)) := by
    rw [sumS_sb, sb_extract, getS, sb_encS, ← sb_length, sb_encS, frA_body, frA_tail, List.take_of_length_le (by rw [putB_length]; exact Nat.le_refl _), getL_putB 4 _ hs.1 (by omega)]
  unfold decR
  rw [sb_encS, h5', if_neg (by omega), if_neg (by simpa using hsum), hat, if_pos h]
theorem set_getD_ne (l : List Int) (k i : Nat) (y : Int) (h : k ≠ i) : (l.set k y).getD i 0 = l.getD i 0 := by
  rw [List.getD_eq_getElem?_getD, List.getD_eq_getElem?_getD, List.getElem?_set_ne h]
theorem back_bad (f : Fr) (h : frOk f = true) (k : Nat) (hk : k < (encS f).size) (y : Int) (hy : 0 ≤ y ∧ y ≤ 255) (hne : (sb (encS f)).getD k 0 ≠ y) : (decR (bs ((sb (encS f)).set k y))).2 ≠ 0 := by
  obtain ⟨h1, h2, h3, h4, h5⟩ := frOk_parts h
  have hsz := encS_size f
  rw [hsz] at hk
  have h5' := frA_five f (by omega)
  have hfl := frA_length f
  rw [sb_encS] at hne ⊢
  have hbd : ∀ x ∈ (frA f).set k y, 0 ≤ x ∧ x ≤ 255 := fun x hx => by
    rcases List.mem_or_eq_of_mem_set hx with hx | rfl
    · exact frA_bd f x hx
    · exact hy
  have hsb := sb_bs _ hbd
  have hs2 : (bs ((frA f).set k y)).size = 10 + 12 * f.l.length := by rw [bs_size, List.length_set, hfl]
  have hkl : k < (frA f).length := by omega
  have hget : (frA f).getD k 0 = (frA f)[k] := by rw [List.getD_eq_getElem?_getD, List.getElem?_eq_getElem hkl]; rfl
  rw [hget] at hne
  unfold decR
  rw [hsb, hs2]
  by_cases e5 : k = 5
  · subst e5
    have : ((frA f).set 5 y).getD 5 0 = y := by rw [List.getD_eq_getElem?_getD, List.getElem?_set_self hkl]; rfl
    have hc : ((10 + 12 * f.l.length : Nat) : Int) ≠ 10 + 12 * y := by
      rw [← hget, h5'] at hne
      omega
    rw [this, if_pos (Or.inr hc)]
    intro h; cases h
  · rw [set_getD_ne _ _ _ _ e5, h5', if_neg (by omega), if_pos ?_]
    · simp
    · rw [sumS_sb, sb_extract, getS, hsb]
      have e4 : 10 + 12 * f.l.length - 4 = (frA f).length - 4 := by omega
      rw [e4]
      by_cases e6 : k < (frA f).length - 4
      · rw [List.drop_set_of_lt e6, frA_tail, List.take_of_length_le (by rw [putB_length]; exact Nat.le_refl _)]
        have hs := sumL_bd (frB f)
        rw [getL_putB 4 _ hs.1 (by omega), List.take_set, frA_body]
        have hkb : k < (frB f).length := by rw [frB_length]; omega
        have hg : (frA f)[k] = (frB f)[k] := by simp only [frA]; exact List.getElem_append_left hkb
        rw [hg] at hne
        exact Ne.symm (sumL_set (frB f) k y hkb (frB_bd f _ (List.getElem_mem hkb)) hy hne)
      · have e7 : k - ((frA f).length - 4) < (putB (sumL (frB f)) 4).length := by rw [putB_length]; omega
        rw [List.drop_set, if_neg e6, frA_tail, List.take_set, List.take_of_length_le (by rw [putB_length]; exact Nat.le_refl _), getL_set _ _ _ e7]
        rw [List.take_set_of_le (by omega), frA_body]
        have hs := sumL_bd (frB f)
        rw [getL_putB 4 _ hs.1 (by omega)]
        have hg : (putB (sumL (frB f)) 4)[k - ((frA f).length - 4)] = (frA f)[k] := by
          have q1 : (frA f)[k]? = (putB (sumL (frB f)) 4)[k - ((frA f).length - 4)]? := by
            rw [← frA_tail, List.getElem?_drop]; congr 1; omega
          rw [List.getElem?_eq_getElem hkl, List.getElem?_eq_getElem e7] at q1
          exact (Option.some.inj q1).symm
        rw [hg]
        have hp : (256 : Int) ^ (k - ((frA f).length - 4)) ≠ 0 := by
          have : (0 : Int) < 256 ^ (k - ((frA f).length - 4)) := Int.pow_pos (by decide)
          omega
        intro hh
        have : (256 : Int) ^ (k - ((frA f).length - 4)) * (y - (frA f)[k]) = 0 := by omega
        rcases Int.mul_eq_zero.1 this with h | h
        · exact hp h
        · exact hne (by omega)
def fewB (t : List Int) : Bool := decide ((t.length : Int) ≤ 500)
theorem ok_mk_Few (t : List Int) : PC prog n_mk_Few [.list 1 (ints t)] (.bool (fewB t)) := by
  refine PC_of_body b_mk_Few (by simp) ?_
  simp only [c_mk_Few, go_sem, Int.reduceEq, Int.reduceLT, Int.reduceLE, Int.reduceToNat, Nat.reduceLT, Nat.reduceEqDiff, Nat.reduceAdd, Nat.reduceLeDiff, Nat.reduceSub, Nat.reduceMul, ↓reduceIte, reduceCtorEq, w_app_nl, ints_length]
  exact Pub.of_eq rfl rfl
theorem strL_sb (s : ByteArray) : strL s = u8s (sb s) := by simp [strL, u8s, sb]
theorem u8s_set (l : List Int) (k : Nat) (y : Int) : (u8s l).set k (.int .u8 y) = u8s (l.set k y) := by simp [u8s, List.map_set]
theorem u8s_get (l : List Int) (i : Nat) : (u8s l)[i]? = (l[i]?).map (AV.int .u8) := by simp [u8s]
theorem bytes_all (L : List Int) : bytesL (List.take L.length (u8s L)) = some (L.map fun n => UInt8.ofNat n.toNat) := by
  rw [List.take_of_length_le (by rw [u8s_length]; exact Nat.le_refl _), bytesL_u8]
theorem ok_law28_TelemetryBack (t : List Int) (at' : Int) (by' : Int) (hat : 0 ≤ at' ∧ at' ≤ 65535) (hby : 0 ≤ by' ∧ by' ≤ 255) : PC prog n_law28_TelemetryBack [.list 1 (ints t), .int .u16 at', .int .u8 by'] (.bool true) := by
  refine PC_of_body b_law28_TelemetryBack (by simp) ?_
  simp only [c_law28_TelemetryBack, go_sem, Int.reduceEq, Int.reduceLT, Int.reduceLE, Int.reduceToNat, Nat.reduceLT, Nat.reduceEqDiff, Nat.reduceAdd, Nat.reduceLeDiff, Nat.reduceSub, Nat.reduceMul, ↓reduceIte, reduceCtorEq, w_app_nl]
  refine call_pc ok_law28_sane (by simp) ?_
  try simp (disch := omega) only [go_sem, Int.reduceEq, Int.reduceLT, Int.reduceLE, Int.reduceToNat, Nat.reduceLT, Nat.reduceEqDiff, Nat.reduceAdd, Nat.reduceLeDiff, Nat.reduceSub, Nat.reduceMul, ↓reduceIte, reduceCtorEq, wrap_id, w_ite_ne, w_ite_lt, Nat.sub_zero, Nat.sub_self]
  refine call_pc (ok_mk_Few t) (by simp [go_sem]) ?_
  try simp (disch := omega) only [go_sem, Int.reduceEq, Int.reduceLT, Int.reduceLE, Int.reduceToNat, Nat.reduceLT, Nat.reduceEqDiff, Nat.reduceAdd, Nat.reduceLeDiff, Nat.reduceSub, Nat.reduceMul, ↓reduceIte, reduceCtorEq, wrap_id, w_ite_ne, w_ite_lt, Nat.sub_zero, Nat.sub_self]
  cases hfew : fewB t
  · try simp (disch := omega) only [go_sem, Int.reduceEq, Int.reduceLT, Int.reduceLE, Int.reduceToNat, Nat.reduceLT, Nat.reduceEqDiff, Nat.reduceAdd, Nat.reduceLeDiff, Nat.reduceSub, Nat.reduceMul, ↓reduceIte, reduceCtorEq, wrap_id, w_ite_ne, w_ite_lt, Nat.sub_zero, Nat.sub_self]
    exact Pub.of_eq rfl rfl
  have hlt : t.length ≤ 9223372036854775807 := by simp [fewB] at hfew; omega
  try simp (disch := omega) only [go_sem, Int.reduceEq, Int.reduceLT, Int.reduceLE, Int.reduceToNat, Nat.reduceLT, Nat.reduceEqDiff, Nat.reduceAdd, Nat.reduceLeDiff, Nat.reduceSub, Nat.reduceMul, ↓reduceIte, reduceCtorEq, wrap_id, w_ite_ne, w_ite_lt, Nat.sub_zero, Nat.sub_self]
  refine call_hc (ok_mk_New _ t) ?_
  try simp (disch := omega) only [go_sem, Int.reduceEq, Int.reduceLT, Int.reduceLE, Int.reduceToNat, Nat.reduceLT, Nat.reduceEqDiff, Nat.reduceAdd, Nat.reduceLeDiff, Nat.reduceSub, Nat.reduceMul, ↓reduceIte, reduceCtorEq, wrap_id, w_ite_ne, w_ite_lt, Nat.sub_zero, Nat.sub_self]
  refine (hc_flow_Frame _ 0 0 t 0 hlt (by simp) (by first | rfl | simp (maxSteps := 1000000) only [go_sem, Int.reduceEq, Int.reduceLT, Int.reduceLE, Int.reduceToNat, Nat.reduceLT, Nat.reduceEqDiff, Nat.reduceAdd, Nat.reduceLeDiff, Nat.reduceSub, Nat.reduceMul, ↓reduceIte, reduceCtorEq, w_app_nl])).mono ?_
  rintro _ _ ⟨F, at2, c, rfl, hok, rfl⟩
  obtain ⟨h1, h2, h3, h4, h5⟩ := frOk_parts hok
  try simp (disch := omega) only [go_sem, Int.reduceEq, Int.reduceLT, Int.reduceLE, Int.reduceToNat, Nat.reduceLT, Nat.reduceEqDiff, Nat.reduceAdd, Nat.reduceLeDiff, Nat.reduceSub, Nat.reduceMul, ↓reduceIte, reduceCtorEq, wrap_id, w_ite_ne, w_ite_lt, Nat.sub_zero, Nat.sub_self, frv]
  refine call_pc (ok_telemetry_Encode F (by omega)) (by simp [go_sem, frv]) ?_
  have he : encR F = (encS F, 0) := by simp [encR, hok]
  have hsz := encS_size F
  try simp (disch := omega) only [go_sem, Int.reduceEq, Int.reduceLT, Int.reduceLE, Int.reduceToNat, Nat.reduceLT, Nat.reduceEqDiff, Nat.reduceAdd, Nat.reduceLeDiff, Nat.reduceSub, Nat.reduceMul, ↓reduceIte, reduceCtorEq, wrap_id, w_ite_ne, w_ite_lt, Nat.sub_zero, Nat.sub_self, he]
  refine call_pc (ok_telemetry_Decode (encS F) (by omega)) (by simp [go_sem]) ?_
  try simp (disch := omega) only [go_sem, Int.reduceEq, Int.reduceLT, Int.reduceLE, Int.reduceToNat, Nat.reduceLT, Nat.reduceEqDiff, Nat.reduceAdd, Nat.reduceLeDiff, Nat.reduceSub, Nat.reduceMul, ↓reduceIte, reduceCtorEq, wrap_id, w_ite_ne, w_ite_lt, Nat.sub_zero, Nat.sub_self, back_ok F hok, frv]
  refine call_pc (ok_ref28_SameFrame F F (by omega)) (by simp [go_sem, frv]) ?_
  have hz : ¬ ((encS F).size : Int) = 0 := by omega
  try simp (disch := omega) only [go_sem, Int.reduceEq, Int.reduceLT, Int.reduceLE, Int.reduceToNat, Nat.reduceLT, Nat.reduceEqDiff, Nat.reduceAdd, Nat.reduceLeDiff, Nat.reduceSub, Nat.reduceMul, ↓reduceIte, reduceCtorEq, wrap_id, w_ite_ne, w_ite_lt, Nat.sub_zero, Nat.sub_self, hz]
  obtain ⟨k, hk1, hk2⟩ : ∃ k : Nat, at'.tmod ((encS F).size : Int) = k ∧ k < (encS F).size := by
    have q1 := Int.tmod_eq_emod_of_nonneg (b := ((encS F).size : Int)) hat.1
    have q2 := Int.emod_nonneg at' hz
    have q3 := Int.emod_lt_of_pos at' (show (0 : Int) < (encS F).size by omega)
    exact ⟨(at' % ((encS F).size : Int)).toNat, by rw [q1]; omega, by omega⟩
  have hsl : (sb (encS F)).length = (encS F).size := sb_length _
  have hg : (sb (encS F))[k]? = some (sb (encS F))[k] := List.getElem?_eq_getElem (by omega)
  try simp (disch := omega) only [go_sem, Int.reduceEq, Int.reduceLT, Int.reduceLE, Int.reduceToNat, Nat.reduceLT, Nat.reduceEqDiff, Nat.reduceAdd, Nat.reduceLeDiff, Nat.reduceSub, Nat.reduceMul, ↓reduceIte, reduceCtorEq, wrap_id, w_ite_ne, w_ite_lt, Nat.sub_zero, Nat.sub_self, strL_sb, u8s_length, hsl, hk1, u8s_get, hg, hz]
  repeat (refine And.intro (by first | omega | (rw [mxL]; omega) | (simp [maxLen]; done) | (simp [maxLen]; omega)) ?_)
  refine cond_d (fun heq => ?_) (fun hne => ?_)
  · try simp (disch := omega) only [go_sem, Int.reduceEq, Int.reduceLT, Int.reduceLE, Int.reduceToNat, Nat.reduceLT, Nat.reduceEqDiff, Nat.reduceAdd, Nat.reduceLeDiff, Nat.reduceSub, Nat.reduceMul, ↓reduceIte, reduceCtorEq, wrap_id, w_ite_ne, w_ite_lt, Nat.sub_zero, Nat.sub_self]
    exact Pub.of_eq rfl rfl
  · have hset : ((sb (encS F)).set k by').length = (encS F).size := by rw [List.length_set, hsl]
    have hby2 := bytes_all ((sb (encS F)).set k by')
    rw [hset] at hby2
    try simp (disch := omega) only [go_sem, Int.reduceEq, Int.reduceLT, Int.reduceLE, Int.reduceToNat, Nat.reduceLT, Nat.reduceEqDiff, Nat.reduceAdd, Nat.reduceLeDiff, Nat.reduceSub, Nat.reduceMul, ↓reduceIte, reduceCtorEq, wrap_id, w_ite_ne, w_ite_lt, Nat.sub_zero, Nat.sub_self, strL_sb, u8s_length, hsl, hk1, u8s_get, hg, u8s_set, hset, hby2, Option.some.injEq, exists_eq_left']
    repeat (refine And.intro (by first | omega | (rw [mxL]; omega) | (simp [maxLen]; done) | (simp [maxLen]; omega)) ?_)
    have hbad := back_bad F hok k hk2 by' hby (by rw [List.getD_eq_getElem?_getD, hg]; simpa using hne)
    have hbs : (⟨(((sb (encS F)).set k by').map fun n => UInt8.ofNat n.toNat).toArray⟩ : ByteArray) = bs ((sb (encS F)).set k by') := rfl
    rw [hbs]
    refine call_pc (ok_telemetry_Decode _ (by rw [bs_size, hset]; omega)) (by simp [go_sem]) ?_
    try simp (disch := omega) only [go_sem, Int.reduceEq, Int.reduceLT, Int.reduceLE, Int.reduceToNat, Nat.reduceLT, Nat.reduceEqDiff, Nat.reduceAdd, Nat.reduceLeDiff, Nat.reduceSub, Nat.reduceMul, ↓reduceIte, reduceCtorEq, wrap_id, w_ite_ne, w_ite_lt, Nat.sub_zero, Nat.sub_self, frv]
    exact Pub.of_eq (by simp [hbad]) rfl
def strs (l : List ByteArray) : List AV := l.map .str
theorem strs_length (l : List ByteArray) : (strs l).length = l.length := by simp [strs]
theorem strs_get (l : List ByteArray) (i : Nat) : (strs l)[i]? = (l[i]?).map AV.str := by simp [strs]
theorem ok_law28_TelemetryBytes (t : List Int) (raw : Fr) (hraw : raw.l.length ≤ 9223372036854775807) (s : ByteArray) (hs : s.size ≤ 9223372036854775807) (at' : Int) (by' : Int) (hat : 0 ≤ at' ∧ at' ≤ 255) (hby : 0 ≤ by' ∧ by' ≤ 255) :
    PC prog n_law28_TelemetryBytes [.list 1 (ints t), frv raw, .str s, .int .u8 at', .int .u8 by'] (.bool true) := by
  refine PC_of_body b_law28_TelemetryBytes (by simp) ?_
  simp only [c_law28_TelemetryBytes, go_sem, Int.reduceEq, Int.reduceLT, Int.reduceLE, Int.reduceToNat, Nat.reduceLT, Nat.reduceEqDiff, Nat.reduceAdd, Nat.reduceLeDiff, Nat.reduceSub, Nat.reduceMul, ↓reduceIte, reduceCtorEq, w_app_nl, frv]
  refine call_pc ok_law28_sane (by simp) ?_
  try simp (disch := omega) only [go_sem, Int.reduceEq, Int.reduceLT, Int.reduceLE, Int.reduceToNat, Nat.reduceLT, Nat.reduceEqDiff, Nat.reduceAdd, Nat.reduceLeDiff, Nat.reduceSub, Nat.reduceMul, ↓reduceIte, reduceCtorEq, wrap_id, w_ite_ne, w_ite_lt, Nat.sub_zero, Nat.sub_self]
  refine call_pc (ok_mk_Few t) (by simp [go_sem]) ?_
  try simp (disch := omega) only [go_sem, Int.reduceEq, Int.reduceLT, Int.reduceLE, Int.reduceToNat, Nat.reduceLT, Nat.reduceEqDiff, Nat.reduceAdd, Nat.reduceLeDiff, Nat.reduceSub, Nat.reduceMul, ↓reduceIte, reduceCtorEq, wrap_id, w_ite_ne, w_ite_lt, Nat.sub_zero, Nat.sub_self]
  cases hfew : fewB t
  · try simp (disch := omega) only [go_sem, Int.reduceEq, Int.reduceLT, Int.reduceLE, Int.reduceToNat, Nat.reduceLT, Nat.reduceEqDiff, Nat.reduceAdd, Nat.reduceLeDiff, Nat.reduceSub, Nat.reduceMul, ↓reduceIte, reduceCtorEq, wrap_id, w_ite_ne, w_ite_lt, Nat.sub_zero, Nat.sub_self]
    exact Pub.of_eq rfl rfl
  have hlt : t.length ≤ 9223372036854775807 := by simp [fewB] at hfew; omega
  try simp (disch := omega) only [go_sem, Int.reduceEq, Int.reduceLT, Int.reduceLE, Int.reduceToNat, Nat.reduceLT, Nat.reduceEqDiff, Nat.reduceAdd, Nat.reduceLeDiff, Nat.reduceSub, Nat.reduceMul, ↓reduceIte, reduceCtorEq, wrap_id, w_ite_ne, w_ite_lt, Nat.sub_zero, Nat.sub_self]
  refine gd_fd rfl (fun h => ?_) (fun hs1 => ?_) <;> try simp (disch := omega) only [go_sem, Int.reduceEq, Int.reduceLT, Int.reduceLE, Int.reduceToNat, Nat.reduceLT, Nat.reduceEqDiff, Nat.reduceAdd, Nat.reduceLeDiff, Nat.reduceSub, Nat.reduceMul, ↓reduceIte, reduceCtorEq, wrap_id, w_ite_ne, w_ite_lt, Nat.sub_zero, Nat.sub_self, rds_length]
  · exact Pub.of_eq rfl rfl
  refine cond_d (fun h => ?_) (fun hr1 => ?_) <;> try simp (disch := omega) only [go_sem, Int.reduceEq, Int.reduceLT, Int.reduceLE, Int.reduceToNat, Nat.reduceLT, Nat.reduceEqDiff, Nat.reduceAdd, Nat.reduceLeDiff, Nat.reduceSub, Nat.reduceMul, ↓reduceIte, reduceCtorEq, wrap_id, w_ite_ne, w_ite_lt, Nat.sub_zero, Nat.sub_self]
  · exact Pub.of_eq rfl rfl
  refine call_hc (ok_mk_New _ t) ?_
  try simp (disch := omega) only [go_sem, Int.reduceEq, Int.reduceLT, Int.reduceLE, Int.reduceToNat, Nat.reduceLT, Nat.reduceEqDiff, Nat.reduceAdd, Nat.reduceLeDiff, Nat.reduceSub, Nat.reduceMul, ↓reduceIte, reduceCtorEq, wrap_id, w_ite_ne, w_ite_lt, Nat.sub_zero, Nat.sub_self]
  refine (hc_flow_Frame _ 1 1 t 0 hlt (by simp) (by first | rfl | simp (maxSteps := 1000000) only [go_sem, Int.reduceEq, Int.reduceLT, Int.reduceLE, Int.reduceToNat, Nat.reduceLT, Nat.reduceEqDiff, Nat.reduceAdd, Nat.reduceLeDiff, Nat.reduceSub, Nat.reduceMul, ↓reduceIte, reduceCtorEq, w_app_nl])).mono ?_
  rintro _ _ ⟨F, at2, c, rfl, hok, rfl⟩
  obtain ⟨h1, h2, h3, h4, h5⟩ := frOk_parts hok
  try simp (disch := omega) only [go_sem, Int.reduceEq, Int.reduceLT, Int.reduceLE, Int.reduceToNat, Nat.reduceLT, Nat.reduceEqDiff, Nat.reduceAdd, Nat.reduceLeDiff, Nat.reduceSub, Nat.reduceMul, ↓reduceIte, reduceCtorEq, wrap_id, w_ite_ne, w_ite_lt, Nat.sub_zero, Nat.sub_self, frv]
  refine call_pc (ok_ref28_Encode F (by omega)) (by simp [go_sem, frv]) ?_
  have he : encR F = (encS F, 0) := by simp [encR, hok]
  have hsz := encS_size F
  try simp (disch := omega) only [go_sem, Int.reduceEq, Int.reduceLT, Int.reduceLE, Int.reduceToNat, Nat.reduceLT, Nat.reduceEqDiff, Nat.reduceAdd, Nat.reduceLeDiff, Nat.reduceSub, Nat.reduceMul, ↓reduceIte, reduceCtorEq, wrap_id, w_ite_ne, w_ite_lt, Nat.sub_zero, Nat.sub_self, he]
  obtain ⟨k, hk1, hk2⟩ : ∃ k : Nat, at'.tmod ((encS F).size : Int) = k ∧ k < (encS F).size := by
    have q1 := Int.tmod_eq_emod_of_nonneg (b := ((encS F).size : Int)) hat.1
    have q2 := Int.emod_nonneg at' (show ((encS F).size : Int) ≠ 0 by omega)
    have q3 := Int.emod_lt_of_pos at' (show (0 : Int) < (encS F).size by omega)
    exact ⟨(at' % ((encS F).size : Int)).toNat, by rw [q1]; omega, by omega⟩
  have hsl : (sb (encS F)).length = (encS F).size := sb_length _
  have hg : (sb (encS F))[k]? = some (sb (encS F))[k] := List.getElem?_eq_getElem (by omega)
  have hz : ¬ ((encS F).size : Int) = 0 := by omega
  try simp (disch := omega) only [go_sem, Int.reduceEq, Int.reduceLT, Int.reduceLE, Int.reduceToNat, Nat.reduceLT, Nat.reduceEqDiff, Nat.reduceAdd, Nat.reduceLeDiff, Nat.reduceSub, Nat.reduceMul, ↓reduceIte, reduceCtorEq, wrap_id, w_ite_ne, w_ite_lt, Nat.sub_zero, Nat.sub_self, strL_sb, u8s_length, hsl, hk1, u8s_get, hg, hz, u8s_set]
  repeat (refine And.intro (by first | omega | (rw [mxL]; omega) | (simp [maxLen]; done) | (simp [maxLen]; omega)) ?_)
  have e4 : (((encS F).size : Int) - 4).toNat = (encS F).size - 4 := by omega
  rw [e4]
  generalize hW : (encS F).extract 0 ((encS F).size - 4) = W4
  have hWs : W4.size = (encS F).size - 4 := by rw [← hW, ← sb_length, sb_extract, List.length_take, hsl]; omega
  obtain ⟨k2, hk3, hk4⟩ : ∃ k : Nat, at'.tmod (W4.size : Int) = k ∧ k < W4.size := by
    have q1 := Int.tmod_eq_emod_of_nonneg (b := (W4.size : Int)) hat.1
    have q2 := Int.emod_nonneg at' (show (W4.size : Int) ≠ 0 by omega)
    have q3 := Int.emod_lt_of_pos at' (show (0 : Int) < W4.size by omega)
    exact ⟨(at' % (W4.size : Int)).toNat, by rw [q1]; omega, by omega⟩
  have hsl2 : (sb W4).length = W4.size := sb_length _
  have hg2 : (sb W4)[k2]? = some (sb W4)[k2] := List.getElem?_eq_getElem (by omega)
  have hz2 : ¬ (W4.size : Int) = 0 := by omega
  have hset : ((sb (encS F)).set k by').length = (encS F).size := by rw [List.length_set, hsl]
  have hby2 := bytes_all ((sb (encS F)).set k by')
  rw [hset] at hby2
  have hset3 : ((sb W4).set k2 by').length = W4.size := by rw [List.length_set, hsl2]
  have hby3 := bytes_all ((sb W4).set k2 by')
  rw [hset3] at hby3
  try simp (disch := omega) only [go_sem, Int.reduceEq, Int.reduceLT, Int.reduceLE, Int.reduceToNat, Nat.reduceLT, Nat.reduceEqDiff, Nat.reduceAdd, Nat.reduceLeDiff, Nat.reduceSub, Nat.reduceMul, ↓reduceIte, reduceCtorEq, wrap_id, w_ite_ne, w_ite_lt, Nat.sub_zero, Nat.sub_self, strL_sb, u8s_length, hsl2, hk3, u8s_get, hg2, hz2, u8s_set, hset, hby2, hset3, hby3, Option.some.injEq, exists_eq_left']
  repeat (refine And.intro (by first | omega | (rw [mxL]; omega) | (simp [maxLen]; done) | (simp [maxLen]; omega)) ?_)
  have hC : (⟨(((sb W4).set k2 by').map fun n => UInt8.ofNat n.toNat).toArray⟩ : ByteArray) = bs ((sb W4).set k2 by') := rfl
  rw [hC]
  generalize hCL : (sb W4).set k2 by' = CL at *
  have hCs : (bs CL).size ≤ 1000 := by rw [bs_size]; omega
  refine call_pc (ok_ref28_Sum (bs CL) (by omega)) (by simp [go_sem]) ?_
  try simp (disch := omega) only [go_sem, Int.reduceEq, Int.reduceLT, Int.reduceLE, Int.reduceToNat, Nat.reduceLT, Nat.reduceEqDiff, Nat.reduceAdd, Nat.reduceLeDiff, Nat.reduceSub, Nat.reduceMul, ↓reduceIte, reduceCtorEq, wrap_id, w_ite_ne, w_ite_lt, Nat.sub_zero, Nat.sub_self]
  refine call_pc (put_bs CL (sumS (bs CL)) 4 (by omega) (by omega)) (by simp [go_sem]) ?_
  have hC2s : (bs (CL ++ putB (sumS (bs CL)) 4)).size ≤ 1000 := by rw [bs_size, List.length_append, putB_length]; omega
  generalize hC2 : bs (CL ++ putB (sumS (bs CL)) 4) = C2 at *
  try simp (disch := omega) only [go_sem, Int.reduceEq, Int.reduceLT, Int.reduceLE, Int.reduceToNat, Nat.reduceLT, Nat.reduceEqDiff, Nat.reduceAdd, Nat.reduceLeDiff, Nat.reduceSub, Nat.reduceMul, ↓reduceIte, reduceCtorEq, wrap_id, w_ite_ne, w_ite_lt, Nat.sub_zero, Nat.sub_self, u8s_length, hset, hby2, hk1, Option.some.injEq, exists_eq_left']
  have hB : (⟨(((sb (encS F)).set k by').map fun n => UInt8.ofNat n.toNat).toArray⟩ : ByteArray) = bs ((sb (encS F)).set k by') := rfl
  rw [hB]
  have hBs : (bs ((sb (encS F)).set k by')).size ≤ 1000 := by rw [bs_size, hset]; omega
  generalize bs ((sb (encS F)).set k by') = BB at *
  repeat (refine And.intro (by first | omega | (rw [mxL]; omega) | (simp [maxLen]; done) | (simp [maxLen]; omega)) ?_)
  have hD : ((encS F).extract 0 k).size ≤ 1000 := by rw [← sb_length, sb_extract, List.length_take, hsl]; omega
  generalize (encS F).extract 0 k = D at *
  have hE : (encS F ++ s).size ≤ 2000 := by rw [ByteArray.size_append]; omega
  generalize hEE : encS F ++ s = EE at *
  have hLs : [AV.str s, .str (encS F), .str BB, .str D, .str C2, .str EE] = strs [s, encS F, BB, D, C2, EE] := rfl
  have hLb : ∀ x ∈ [s, encS F, BB, D, C2, EE], x.size ≤ 2000 := by
    intro x hx
    simp only [List.mem_cons, List.not_mem_nil, or_false] at hx
    rcases hx with rfl | rfl | rfl | rfl | rfl | rfl <;> omega
  have hLl : [s, encS F, BB, D, C2, EE].length = 6 := rfl
  rw [hLs]
  generalize [s, encS F, BB, D, C2, EE] = Ls at *
  refine awp_upF [10, 18, 19, 20, 21, 22, 100, 101, 102, 103, 104, 105, 106, 107, 108, 109, 110, 111, 112, 113, 114, 115, 116, 117, 118, 119, 120, 121, 122, 123, 124, 125, 126, 127, 128, 129, 130] (by kernel_rfl) 6 (fun r e σ => e 100 = .int .i64 r ∧ σ.ob 0 = some ⟨0, 3, 36, false, true, [frv raw]⟩ ∧ σ.ob 2 = some ⟨c, 3, 36, false, true, [frv F]⟩) ?_ ?_
  · exact ⟨(by first | ((try simp (maxSteps := 1000000) only [go_sem, Int.reduceEq, Int.reduceLT, Int.reduceLE, Int.reduceToNat, Nat.reduceLT, Nat.reduceEqDiff, Nat.reduceAdd, Nat.reduceLeDiff, Nat.reduceSub, Nat.reduceMul, ↓reduceIte, reduceCtorEq, w_app_nl]); done) | ((try simp (maxSteps := 1000000) only [go_sem, Int.reduceEq, Int.reduceLT, Int.reduceLE, Int.reduceToNat, Nat.reduceLT, Nat.reduceEqDiff, Nat.reduceAdd, Nat.reduceLeDiff, Nat.reduceSub, Nat.reduceMul, ↓reduceIte, reduceCtorEq, w_app_nl]); rfl) | ((try simp (maxSteps := 1000000) (disch := omega) only [go_sem, Int.reduceEq, Int.reduceLT, Int.reduceLE, Int.reduceToNat, Nat.reduceLT, Nat.reduceEqDiff, Nat.reduceAdd, Nat.reduceLeDiff, Nat.reduceSub, Nat.reduceMul, ↓reduceIte, reduceCtorEq, w_app_nl, wrap_id, w_ite_ne, w_ite_lt]); rfl) | (simp (maxSteps := 1000000) (disch := omega) only [go_sem, Int.reduceEq, Int.reduceLT, Int.reduceLE, Int.reduceToNat, Nat.reduceLT, Nat.reduceEqDiff, Nat.reduceAdd, Nat.reduceLeDiff, Nat.reduceSub, Nat.reduceMul, ↓reduceIte, reduceCtorEq, w_app_nl, wrap_id, w_ite_ne, w_ite_lt]; done)), (by first | ((try simp (maxSteps := 1000000) only [go_sem, Int.reduceEq, Int.reduceLT, Int.reduceLE, Int.reduceToNat, Nat.reduceLT, Nat.reduceEqDiff, Nat.reduceAdd, Nat.reduceLeDiff, Nat.reduceSub, Nat.reduceMul, ↓reduceIte, reduceCtorEq, w_app_nl]); done) | ((try simp (maxSteps := 1000000) only [go_sem, Int.reduceEq, Int.reduceLT, Int.reduceLE, Int.reduceToNat, Nat.reduceLT, Nat.reduceEqDiff, Nat.reduceAdd, Nat.reduceLeDiff, Nat.reduceSub, Nat.reduceMul, ↓reduceIte, reduceCtorEq, w_app_nl]); rfl) | ((try simp (maxSteps := 1000000) (disch := omega) only [go_sem, Int.reduceEq, Int.reduceLT, Int.reduceLE, Int.reduceToNat, Nat.reduceLT, Nat.reduceEqDiff, Nat.reduceAdd, Nat.reduceLeDiff, Nat.reduceSub, Nat.reduceMul, ↓reduceIte, reduceCtorEq, w_app_nl, wrap_id, w_ite_ne, w_ite_lt]); rfl) | (simp (maxSteps := 1000000) (disch := omega) only [go_sem, Int.reduceEq, Int.reduceLT, Int.reduceLE, Int.reduceToNat, Nat.reduceLT, Nat.reduceEqDiff, Nat.reduceAdd, Nat.reduceLeDiff, Nat.reduceSub, Nat.reduceMul, ↓reduceIte, reduceCtorEq, w_app_nl, wrap_id, w_ite_ne, w_ite_lt]; done)), (by first | ((try simp (maxSteps := 1000000) only [go_sem, Int.reduceEq, Int.reduceLT, Int.reduceLE, Int.reduceToNat, Nat.reduceLT, Nat.reduceEqDiff, Nat.reduceAdd, Nat.reduceLeDiff, Nat.reduceSub, Nat.reduceMul, ↓reduceIte, reduceCtorEq, w_app_nl]); done) | ((try simp (maxSteps := 1000000) only [go_sem, Int.reduceEq, Int.reduceLT, Int.reduceLE, Int.reduceToNat, Nat.reduceLT, Nat.reduceEqDiff, Nat.reduceAdd, Nat.reduceLeDiff, Nat.reduceSub, Nat.reduceMul, ↓reduceIte, reduceCtorEq, w_app_nl]); rfl) | ((try simp (maxSteps := 1000000) (disch := omega) only [go_sem, Int.reduceEq, Int.reduceLT, Int.reduceLE, Int.reduceToNat, Nat.reduceLT, Nat.reduceEqDiff, Nat.reduceAdd, Nat.reduceLeDiff, Nat.reduceSub, Nat.reduceMul, ↓reduceIte, reduceCtorEq, w_app_nl, wrap_id, w_ite_ne, w_ite_lt]); rfl) | (simp (maxSteps := 1000000) (disch := omega) only [go_sem, Int.reduceEq, Int.reduceLT, Int.reduceLE, Int.reduceToNat, Nat.reduceLT, Nat.reduceEqDiff, Nat.reduceAdd, Nat.reduceLeDiff, Nat.reduceSub, Nat.reduceMul, ↓reduceIte, reduceCtorEq, w_app_nl, wrap_id, w_ite_ne, w_ite_lt]; done))⟩
  · rintro r fe ob c2 hr ⟨h100, q0, q2⟩
    simp (maxSteps := 1000000) only [go_sem, Int.reduceEq, Int.reduceLT, Int.reduceLE, Int.reduceToNat, Nat.reduceLT, Nat.reduceEqDiff, Nat.reduceAdd, Nat.reduceLeDiff, Nat.reduceSub, Nat.reduceMul, ↓reduceIte, reduceCtorEq, w_app_nl, frv] at h100 q0 q2
    try simp (disch := omega) only [go_sem, Int.reduceEq, Int.reduceLT, Int.reduceLE, Int.reduceToNat, Nat.reduceLT, Nat.reduceEqDiff, Nat.reduceAdd, Nat.reduceLeDiff, Nat.reduceSub, Nat.reduceMul, ↓reduceIte, reduceCtorEq, wrap_id, w_ite_ne, w_ite_lt, Nat.sub_zero, Nat.sub_self, h100, strs_length, hLl]
    refine cond_d (fun hlt => ?_) (fun hge => ?_)
    · have hrl : r < Ls.length := by omega
      have hg3 : Ls[r]? = some Ls[r] := List.getElem?_eq_getElem hrl
      have hv := hLb _ (List.getElem_mem hrl)
      generalize Ls[r] = v at *
      try simp (disch := omega) only [go_sem, Int.reduceEq, Int.reduceLT, Int.reduceLE, Int.reduceToNat, Nat.reduceLT, Nat.reduceEqDiff, Nat.reduceAdd, Nat.reduceLeDiff, Nat.reduceSub, Nat.reduceMul, ↓reduceIte, reduceCtorEq, wrap_id, w_ite_ne, w_ite_lt, Nat.sub_zero, Nat.sub_self, h100, strs_length, hLl, strs_get, hg3]
      repeat (refine And.intro (by first | omega | (rw [mxL]; omega) | (simp [maxLen]; done) | (simp [maxLen]; omega)) ?_)
      refine call_pc (ok_telemetry_Decode v (by omega)) (by simp [go_sem]) ?_
      try simp (disch := omega) only [go_sem, Int.reduceEq, Int.reduceLT, Int.reduceLE, Int.reduceToNat, Nat.reduceLT, Nat.reduceEqDiff, Nat.reduceAdd, Nat.reduceLeDiff, Nat.reduceSub, Nat.reduceMul, ↓reduceIte, reduceCtorEq, wrap_id, w_ite_ne, w_ite_lt, Nat.sub_zero, Nat.sub_self, h100, frv]
      refine call_pc (ok_ref28_Decode v (by omega)) (by simp [go_sem]) ?_
      try simp (disch := omega) only [go_sem, Int.reduceEq, Int.reduceLT, Int.reduceLE, Int.reduceToNat, Nat.reduceLT, Nat.reduceEqDiff, Nat.reduceAdd, Nat.reduceLeDiff, Nat.reduceSub, Nat.reduceMul, ↓reduceIte, reduceCtorEq, wrap_id, w_ite_ne, w_ite_lt, Nat.sub_zero, Nat.sub_self, h100, frv]
      have hdl : (decR v).1.l.length ≤ 9223372036854775807 := by
        unfold decR
        split
        · simp
        · split
          · simp
          · split
            · have hx := sb_getD_bd v 5
              simp only [frAt, rdsAt_length]; omega
            · simp
      refine call_pc (ok_ref28_SameFrame (decR v).1 (decR v).1 hdl) (by simp [go_sem, frv]) ?_
      try simp (disch := omega) only [go_sem, Int.reduceEq, Int.reduceLT, Int.reduceLE, Int.reduceToNat, Nat.reduceLT, Nat.reduceEqDiff, Nat.reduceAdd, Nat.reduceLeDiff, Nat.reduceSub, Nat.reduceMul, ↓reduceIte, reduceCtorEq, wrap_id, w_ite_ne, w_ite_lt, Nat.sub_zero, Nat.sub_self, h100]
      refine call_pc (ok_telemetry_Sum v (by omega)) (by simp [go_sem]) ?_
      try simp (disch := omega) only [go_sem, Int.reduceEq, Int.reduceLT, Int.reduceLE, Int.reduceToNat, Nat.reduceLT, Nat.reduceEqDiff, Nat.reduceAdd, Nat.reduceLeDiff, Nat.reduceSub, Nat.reduceMul, ↓reduceIte, reduceCtorEq, wrap_id, w_ite_ne, w_ite_lt, Nat.sub_zero, Nat.sub_self, h100]
      refine call_pc (ok_ref28_Sum v (by omega)) (by simp [go_sem]) ?_
      try simp (disch := omega) only [go_sem, Int.reduceEq, Int.reduceLT, Int.reduceLE, Int.reduceToNat, Nat.reduceLT, Nat.reduceEqDiff, Nat.reduceAdd, Nat.reduceLeDiff, Nat.reduceSub, Nat.reduceMul, ↓reduceIte, reduceCtorEq, wrap_id, w_ite_ne, w_ite_lt, Nat.sub_zero, Nat.sub_self, h100]
      exact up_next (by omega) ⟨(by first | ((try simp (maxSteps := 1000000) only [go_sem, Int.reduceEq, Int.reduceLT, Int.reduceLE, Int.reduceToNat, Nat.reduceLT, Nat.reduceEqDiff, Nat.reduceAdd, Nat.reduceLeDiff, Nat.reduceSub, Nat.reduceMul, ↓reduceIte, reduceCtorEq, w_app_nl]); done) | ((try simp (maxSteps := 1000000) only [go_sem, Int.reduceEq, Int.reduceLT, Int.reduceLE, Int.reduceToNat, Nat.reduceLT, Nat.reduceEqDiff, Nat.reduceAdd, Nat.reduceLeDiff, Nat.reduceSub, Nat.reduceMul, ↓reduceIte, reduceCtorEq, w_app_nl]); rfl) | ((try simp (maxSteps := 1000000) (disch := omega) only [go_sem, Int.reduceEq, Int.reduceLT, Int.reduceLE, Int.reduceToNat, Nat.reduceLT, Nat.reduceEqDiff, Nat.reduceAdd, Nat.reduceLeDiff, Nat.reduceSub, Nat.reduceMul, ↓reduceIte, reduceCtorEq, w_app_nl, wrap_id, w_ite_ne, w_ite_lt]); rfl) | (simp (maxSteps := 1000000) (disch := omega) only [go_sem, Int.reduceEq, Int.reduceLT, Int.reduceLE, Int.reduceToNat, Nat.reduceLT, Nat.reduceEqDiff, Nat.reduceAdd, Nat.reduceLeDiff, Nat.reduceSub, Nat.reduceMul, ↓reduceIte, reduceCtorEq, w_app_nl, wrap_id, w_ite_ne, w_ite_lt]; done)), by try simp (disch := omega) only [go_sem, Int.reduceEq, Int.reduceLT, Int.reduceLE, Int.reduceToNat, Nat.reduceLT, Nat.reduceEqDiff, Nat.reduceAdd, Nat.reduceLeDiff, Nat.reduceSub, Nat.reduceMul, ↓reduceIte, reduceCtorEq, wrap_id, w_ite_ne, w_ite_lt, Nat.sub_zero, Nat.sub_self]; exact q0, by try simp (disch := omega) only [go_sem, Int.reduceEq, Int.reduceLT, Int.reduceLE, Int.reduceToNat, Nat.reduceLT, Nat.reduceEqDiff, Nat.reduceAdd, Nat.reduceLeDiff, Nat.reduceSub, Nat.reduceMul, ↓reduceIte, reduceCtorEq, wrap_id, w_ite_ne, w_ite_lt, Nat.sub_zero, Nat.sub_self]; exact q2⟩
    · try simp (disch := omega) only [go_sem, Int.reduceEq, Int.reduceLT, Int.reduceLE, Int.reduceToNat, Nat.reduceLT, Nat.reduceEqDiff, Nat.reduceAdd, Nat.reduceLeDiff, Nat.reduceSub, Nat.reduceMul, ↓reduceIte, reduceCtorEq, wrap_id, w_ite_ne, w_ite_lt, Nat.sub_zero, Nat.sub_self, q0]
      refine call_pc (ok_telemetry_Encode raw hraw) (by simp [go_sem, frv]) ?_
      try simp (disch := omega) only [go_sem, Int.reduceEq, Int.reduceLT, Int.reduceLE, Int.reduceToNat, Nat.reduceLT, Nat.reduceEqDiff, Nat.reduceAdd, Nat.reduceLeDiff, Nat.reduceSub, Nat.reduceMul, ↓reduceIte, reduceCtorEq, wrap_id, w_ite_ne, w_ite_lt, Nat.sub_zero, Nat.sub_self, q0]
      refine call_pc (ok_ref28_Encode raw hraw) (by simp [go_sem, frv]) ?_
      try simp (disch := omega) only [go_sem, Int.reduceEq, Int.reduceLT, Int.reduceLE, Int.reduceToNat, Nat.reduceLT, Nat.reduceEqDiff, Nat.reduceAdd, Nat.reduceLeDiff, Nat.reduceSub, Nat.reduceMul, ↓reduceIte, reduceCtorEq, wrap_id, w_ite_ne, w_ite_lt, Nat.sub_zero, Nat.sub_self, q2]
      refine call_pc (ok_telemetry_Encode F (by omega)) (by simp [go_sem, frv]) ?_
      try simp (disch := omega) only [go_sem, Int.reduceEq, Int.reduceLT, Int.reduceLE, Int.reduceToNat, Nat.reduceLT, Nat.reduceEqDiff, Nat.reduceAdd, Nat.reduceLeDiff, Nat.reduceSub, Nat.reduceMul, ↓reduceIte, reduceCtorEq, wrap_id, w_ite_ne, w_ite_lt, Nat.sub_zero, Nat.sub_self, he]
      exact Pub.of_eq rfl rfl
theorem shInts {c : List AV} (h : (Sh.slice 1 (.int .i64)).R c) : ∃ L : List Int, c = [.list 1 (ints L)] ∧ L.length ≤ 9223372036854775807 ∧ ∀ n ∈ L, (Lit.int .i64 n).wf = true := by
  obtain ⟨xs, rfl, hl, h⟩ := h
  obtain ⟨L, rfl, hL⟩ := exists_map (f := AV.int .i64) (Q := fun n => (Lit.int .i64 n).wf = true) fun x hx => by
    obtain ⟨cs, hr, _, rfl⟩ := h x hx
    obtain ⟨a, rfl, ha⟩ := hr
    exact ⟨a, ha, rfl⟩
  exact ⟨L, rfl, by simpa using hl, hL⟩
theorem wf_u8 {n : Int} (h : (Lit.int .u8 n).wf = true) : 0 ≤ n ∧ n ≤ 255 := by
  simp [Lit.wf, IntKind.min, IntKind.max, IntKind.signed, IntKind.bits] at h; omega
theorem wf_u16 {n : Int} (h : (Lit.int .u16 n).wf = true) : 0 ≤ n ∧ n ≤ 65535 := by
  simp [Lit.wf, IntKind.min, IntKind.max, IntKind.signed, IntKind.bits] at h; omega
theorem wf_i64 {n : Int} (h : (Lit.int .i64 n).wf = true) : -9223372036854775808 ≤ n ∧ n ≤ 9223372036854775807 := by
  simp [Lit.wf, IntKind.min, IntKind.max, IntKind.signed, IntKind.bits] at h; omega
abbrev shRd : Sh := .struct (.fc (.int .i64) (.fc (.int .i64) (.fc (.int .i64) (.fc (.int .i64) .f0))))
theorem shRds {c : List AV} (h : (Sh.slice 4 shRd).R c) : ∃ L : List Rd, c = [.list 4 (rds L)] ∧ L.length ≤ 9223372036854775807 := by
  obtain ⟨xs, rfl, hl, h⟩ := h
  obtain ⟨L, rfl, _⟩ := exists_map (f := rdv) (Q := fun _ => True) fun x hx => by
    obtain ⟨cs, hr, _, rfl⟩ := h x hx
    obtain ⟨_, _, rfl, ⟨a, rfl, _⟩, _, _, rfl, ⟨b, rfl, _⟩, _, _, rfl, ⟨d, rfl, _⟩, _, _, rfl, ⟨e, rfl, _⟩, rfl⟩ := hr
    exact ⟨⟨a, b, d, e⟩, trivial, rfl⟩
  exact ⟨L, rfl, by simpa using hl⟩
abbrev shFr : Sh := .struct (.fc (.int .i64) (.fc (.int .i64) (.fc (.slice 4 shRd) .f0)))
theorem shFrs {c : List AV} (h : shFr.R c) : ∃ F : Fr, shFr.mk1 c = frv F ∧ F.l.length ≤ 9223372036854775807 := by
  obtain ⟨_, _, rfl, ⟨a, rfl, _⟩, _, _, rfl, ⟨b, rfl, _⟩, _, _, rfl, hs, rfl⟩ := h
  obtain ⟨L, rfl, hL⟩ := shRds hs
  exact ⟨⟨a, b, L⟩, rfl, hL⟩
abbrev shRc : Sh := .struct (.fc (.int .i64) (.fc (.int .i64) (.fc (.slice 1 (.int .i64)) .f0)))
theorem shRcs {c : List AV} (h : shRc.R c) : ∃ r : Rc, shRc.mk1 c = rcv r ∧ r.m.length ≤ 9223372036854775807 := by
  obtain ⟨_, _, rfl, ⟨a, rfl, _⟩, _, _, rfl, ⟨b, rfl, _⟩, _, _, rfl, hs, rfl⟩ := h
  obtain ⟨L, rfl, hL, _⟩ := shInts hs
  exact ⟨⟨a, b, L⟩, rfl, hL⟩
theorem law_law28_TelemetryBack {c0 c1 c2 : List AV} (s0 : (Sh.slice 1 (.int .i64)).R c0) (s1 : (Sh.int .u16).R c1) (s2 : (Sh.int .u8).R c2) :
    PC prog n_law28_TelemetryBack [(Sh.slice 1 (.int .i64)).mk1 c0, (Sh.int .u16).mk1 c1, (Sh.int .u8).mk1 c2] (.bool true) := by
  obtain ⟨l0, rfl, _, _⟩ := shInts s0
  obtain ⟨a1, rfl, w1⟩ := s1
  obtain ⟨a2, rfl, w2⟩ := s2
  exact ok_law28_TelemetryBack l0 a1 a2 (wf_u16 w1) (wf_u8 w2)
theorem law_law28_TelemetryBytes {c0 c1 c2 c3 c4 : List AV} (s0 : (Sh.slice 1 (.int .i64)).R c0) (s1 : shFr.R c1) (s2 : Sh.str.R c2) (s3 : (Sh.int .u8).R c3) (s4 : (Sh.int .u8).R c4) :
    PC prog n_law28_TelemetryBytes [(Sh.slice 1 (.int .i64)).mk1 c0, shFr.mk1 c1, Sh.str.mk1 c2, (Sh.int .u8).mk1 c3, (Sh.int .u8).mk1 c4] (.bool true) := by
  obtain ⟨l0, rfl, _, _⟩ := shInts s0
  obtain ⟨F, hF, hl⟩ := shFrs s1
  obtain ⟨s, rfl, hs⟩ := s2
  obtain ⟨a3, rfl, w3⟩ := s3
  obtain ⟨a4, rfl, w4⟩ := s4
  rw [hF]
  exact ok_law28_TelemetryBytes l0 F hl s hs a3 a4 (wf_u8 w3) (wf_u8 w4)
end Go.Proofs.Try
