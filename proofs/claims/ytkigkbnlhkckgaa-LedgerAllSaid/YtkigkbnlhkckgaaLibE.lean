/-
  OWN WORK, put together by tools/asm.py: what functions do.
-/
import Derived.Test.YtkigkbnlhkckgaaLibD
set_option linter.unusedSimpArgs false
set_option linter.unusedVariables false
set_option maxRecDepth 100000
set_option maxHeartbeats 1000000
namespace Go.Proofs.Try
open Go.Ab Go
def sA : Ac := ⟨0, [⟨100, 100⟩, ⟨90, 120⟩], [⟨10, 30⟩], [⟨0, 5⟩]⟩
def sT : Ac := ⟨0, [⟨100, 100⟩, ⟨105, 120⟩], [⟨10, 25⟩], [⟨0, 5⟩]⟩
theorem sA_t : tightS sA = (sT, 0) := by rfl
theorem sA_f : firstS sA = (([100, 105], [10], [5]), 0) := by rfl
theorem sA_c : chk sA = 0 := by rfl
theorem sA_h : holdsS sA [100, 105] [10] [5] = true := by rfl
theorem sA_l : AcL sA := by simp [AcL, sA]
theorem ok_law30_sane : PC prog n_law30_sane [] (.bool true) := by
  refine PC_of_body b_law30_sane (by simp) ?_
  simp only [c_law30_sane, go_sem, Int.reduceEq, Int.reduceLT, Int.reduceLE, Int.reduceToNat, Nat.reduceLT, Nat.reduceEqDiff, Nat.reduceAdd, Nat.reduceLeDiff, Nat.reduceSub, Nat.reduceMul, ↓reduceIte, reduceCtorEq, w_app_nl]
  have h1 := ok_ledger_Tighten sA sA_l
  have h2 := ok_ledger_First sA sA_l
  have h3 := ok_ledger_Holds sA sA_l [100, 105] [10] [5]
  have h4 := ok_ledger_Check sA sA_l
  rw [sA_t] at h1
  rw [sA_f] at h2
  rw [sA_h] at h3
  rw [sA_c] at h4
  simp only [sA, sT, acv, bds, ints, bdv, List.map_cons, List.map_nil] at h1 h2 h3 h4
  refine call_pc h1 (by simp [go_sem]) ?_
  try simp (maxSteps := 500000) (disch := omega) only [go_sem, Int.reduceEq, Int.reduceLT, Int.reduceLE, Int.reduceToNat, Nat.reduceLT, Nat.reduceEqDiff, Nat.reduceAdd, Nat.reduceLeDiff, Nat.reduceSub, Nat.reduceMul, ↓reduceIte, reduceCtorEq, wrap_id, w_ite_ne, w_ite_lt, Nat.sub_zero, Nat.sub_self]
  refine call_pc h2 (by simp [go_sem]) ?_
  try simp (maxSteps := 500000) (disch := omega) only [go_sem, Int.reduceEq, Int.reduceLT, Int.reduceLE, Int.reduceToNat, Nat.reduceLT, Nat.reduceEqDiff, Nat.reduceAdd, Nat.reduceLeDiff, Nat.reduceSub, Nat.reduceMul, ↓reduceIte, reduceCtorEq, wrap_id, w_ite_ne, w_ite_lt, Nat.sub_zero, Nat.sub_self]
  refine call_pc h3 (by simp [go_sem]) ?_
  try simp (maxSteps := 500000) (disch := omega) only [go_sem, Int.reduceEq, Int.reduceLT, Int.reduceLE, Int.reduceToNat, Nat.reduceLT, Nat.reduceEqDiff, Nat.reduceAdd, Nat.reduceLeDiff, Nat.reduceSub, Nat.reduceMul, ↓reduceIte, reduceCtorEq, wrap_id, w_ite_ne, w_ite_lt, Nat.sub_zero, Nat.sub_self]
  refine call_pc h4 (by simp [go_sem]) ?_
  try simp (maxSteps := 500000) (disch := omega) only [go_sem, Int.reduceEq, Int.reduceLT, Int.reduceLE, Int.reduceToNat, Nat.reduceLT, Nat.reduceEqDiff, Nat.reduceAdd, Nat.reduceLeDiff, Nat.reduceSub, Nat.reduceMul, ↓reduceIte, reduceCtorEq, wrap_id, w_ite_ne, w_ite_lt, Nat.sub_zero, Nat.sub_self]
  exact Pub.of_eq rfl rfl
/-- The account of an exact history of flows, and one exact stock. -/
def xB (S : List Int) (k : Int) (i : Nat) : Bd := if (i : Int) = k then ⟨S.getD i 0, S.getD i 0⟩ else ⟨0, 274877906944⟩
def xS (S : List Int) (k : Int) (m : Nat) : List Bd := mkL m (xB S k)
theorem gB_exL {L : List Int} {i : Nat} (h : i < L.length) : gB (exL L) i = ⟨L.getD i 0, L.getD i 0⟩ := by
  simp [gB, exL, List.getD_eq_getElem?_getD, h]
theorem exL_len (L : List Int) : (exL L).length = L.length := by simp [exL]
theorem mkL_eq {n : Nat} {f : Nat → Bd} {L : List Bd} (hl : L.length = n) (h : ∀ i, i < n → f i = gB L i) : mkL n f = L := by
  refine List.ext_getElem? fun i => ?_
  rcases Nat.lt_or_ge i n with hi | hi
  · rw [mkL_get f hi, h i hi, gB_get (by omega)]
  · rw [List.getElem?_eq_none (by simp [mkL]; exact hi), List.getElem?_eq_none (by omega)]
theorem exL_fit {L : List Int} (h : ∀ i, i < L.length → 0 ≤ L.getD i 0 ∧ L.getD i 0 ≤ 1000) : ∀ b ∈ exL L, fitB b := fun b hb => by
  obtain ⟨i, hi, rfl⟩ := List.mem_iff_getElem.1 hb
  rw [exL_len] at hi
  have h1 := h i hi
  simp only [exL, List.getElem_map, fitB, mxV]
  simp only [List.getD_eq_getElem?_getD, List.getElem?_eq_getElem hi, Option.getD_some] at h1
  omega
theorem exact_law {n : Nat} {S I O : List Int} (h : Hst n S I O) (h1 : 1 ≤ n) (h5 : n ≤ 5) {q : Nat} (hq : q ≤ n) :
    tightS ⟨0, xS S q (n + 1), exL I, exL O⟩ = (tgt ⟨0, xS S q (n + 1), exL I, exL O⟩, 0) ∧ (tgt ⟨0, xS S q (n + 1), exL I, exL O⟩).st = exL S := by
  have hS := h.ls
  have hI := h.li
  have hO := h.lo
  have gS : ∀ i, i ≤ n → gB (xS S q (n + 1)) i = xB S q i := fun i hi => gB_mk _ (by omega)
  have gI : ∀ i, i < n → gB (exL I) i = ⟨I.getD i 0, I.getD i 0⟩ := fun i hi => gB_exL (by omega)
  have gO : ∀ i, i < n → gB (exL O) i = ⟨O.getD i 0, O.getD i 0⟩ := fun i hi => gB_exL (by omega)
  have hl : (exL I).length = n := by rw [exL_len, hI]
  have hok : AcOK ⟨0, xS S q (n + 1), exL I, exL O⟩ := by
    refine ⟨by simp only [hl]; omega, by simp only [hl]; omega, by simp only [hl, exL_len, hO], by simp only [hl]; exact mkL_length _ _, by simp only; omega, by simp only [hl]; omega, fun b hb => ?_, exL_fit fun i hi => ?_, exL_fit fun i hi => ?_⟩
    · obtain ⟨i, hi, rfl⟩ := mkL_mem hb
      have := h.s i (by omega)
      unfold xB
      split <;> simp only [fitB, mxV] <;> omega
    · have := h.i i (by omega); omega
    · have := h.o i (by omega); omega
  have hhi : Hi (gB (xS S q (n + 1))) (gB (exL I)) (gB (exL O)) n (fun i => S.getD i 0) (fun i => I.getD i 0) (fun i => O.getD i 0) := by
    refine ⟨fun i hi => ?_, fun i hi => ?_, fun i hi => ?_, fun i hi => h.bal i hi⟩
    · rw [gS i hi]
      have := h.s i (by omega)
      unfold xB
      split <;> simp only [inB] <;> omega
    · rw [gI i hi]; simp only [inB]; omega
    · rw [gO i hi]; simp only [inB]; omega
  have hvd : VD (xS S q (n + 1)) (exL I) (exL O) n := fun i hi => hhi.vd.f i hi
  have hV := hhi.vd
  refine ⟨tightS_yes hok (by simp only [hl]; exact hvd), ?_⟩
  simp only [tgt, hl]
  refine mkL_eq (by rw [exL_len, hS]) fun i hi => ?_
  rw [gB_exL (by omega)]
  have key : ∀ v, inB (cB (xS S q (n + 1)) (exL I) (exL O) n i) v → v = S.getD i 0 := fun v hv => by
    obtain ⟨s, x, y, hs, rfl⟩ := hV.hiS (by omega) hv
    have hx : ∀ j, j ≤ n → s j - S.getD j 0 = s 0 - S.getD 0 0 := fun j => by
      induction j with
      | zero => intro _; rfl
      | succ j ih =>
        intro hj
        have a1 := ih (by omega)
        have a2 := hs.bal j (by omega)
        have a3 := h.bal j (by omega)
        have a4 := hs.ins j (by omega)
        have a5 := hs.outs j (by omega)
        rw [gI j (by omega)] at a4
        rw [gO j (by omega)] at a5
        simp only [inB] at a4 a5
        omega
    have h1 := hx q hq
    have h2 := hx i (by omega)
    have h3 := hs.st q hq
    rw [gS q hq] at h3
    simp only [xB, if_true, inB] at h3
    omega
  have hb := hV.B (i := i) (by omega)
  unfold cB at key ⊢
  have k1 := key _ ⟨Int.le_refl _, hb⟩
  have k2 := key _ ⟨hb, Int.le_refl _⟩
  generalize chB (gB (xS S q (n + 1))) (gB (exL I)) (gB (exL O)) n i = b at *
  obtain ⟨b1, b2⟩ := b
  simp only at k1 k2
  rw [k1, k2]
theorem gB_set {L : List Bd} {i j : Nat} {b : Bd} (hi : i < L.length) : gB (L.set i b) j = if j = i then b else gB L j := by
  simp only [gB, List.getD_eq_getElem?_getD, List.getElem?_set]
  by_cases e : i = j
  · subst e; simp [hi]
  · rw [if_neg e, if_neg fun h => e h.symm]
/-- the f-th of three -/
def nth3 {α : Type} (f : Nat) (s x y : α) : α := if f = 1 then s else if f = 2 then x else y
def HiA (a : Ac) (n : Nat) (s x y : Nat → Int) : Prop := Hi (gB a.st) (gB a.ins) (gB a.outs) n s x y
theorem set_fitB {L : List Bd} {i : Nat} {b : Bd} (h : ∀ b ∈ L, fitB b) (hb : fitB b) : ∀ c ∈ L.set i b, fitB c := fun c hc => by
  rcases List.mem_or_eq_of_mem_set hc with h1 | rfl
  · exact h c h1
  · exact hb
theorem set_in {L : List Bd} {i n : Nat} {v : Int} {s : Nat → Int} (hi : i < L.length) (hL : L.length = n) (hv : inB (gB L i) v) :
    (∀ j, j < n → inB (gB (L.set i ⟨v, v⟩) j) (s j)) ↔ (∀ j, j < n → inB (gB L j) (s j)) ∧ s i = v := by
  constructor
  · intro h
    have h1 := h i (by omega)
    rw [gB_set hi, if_pos rfl] at h1
    simp only [inB] at h1
    refine ⟨fun j hj => ?_, by omega⟩
    have h2 := h j hj
    rw [gB_set hi] at h2
    split at h2
    · rename_i e; subst e; rw [show s j = v by omega]; exact hv
    · exact h2
  · rintro ⟨h1, h2⟩ j hj
    rw [gB_set hi]
    split
    · rename_i e; subst e; rw [h2]; simp [inB]
    · exact h1 j hj
/-- **A number of an account is fixed: what is left are the histories with that number.** -/
theorem fix_law {a : Ac} (h : AcOK a) {f i : Nat} (hf : f = 1 ∨ f = 2 ∨ f = 3) (hi : i < (fldL a f).length) {v : Int} (hv : inB (gB (fldL a f) i) v) :
    ∃ c, fixS a f (a.fr + i) ⟨v, v⟩ = (c, 0) ∧ AcOK c ∧ c.ins.length = a.ins.length ∧ ∀ s x y, HiA c a.ins.length s x y ↔ HiA a a.ins.length s x y ∧ nth3 f s x y i = v := by
  have hfit : fitB (gB (fldL a f) i) := by
    refine (?_ : ∀ b ∈ fldL a f, fitB b) _ (List.mem_of_getElem? (gB_get hi))
    rcases hf with rfl | rfl | rfl
    · exact h.bs
    · exact h.bi
    · exact h.bo
  have hvf : fitB ⟨v, v⟩ := by simp only [fitB, inB] at *; omega
  have hlen := h.ns
  have hlo := h.no
  refine ⟨setL a f ((fldL a f).set i ⟨v, v⟩), ?_, ?_, ?_, ?_⟩
  · unfold fixS
    rw [if_neg (by simp [chk_ok.2 h]), if_neg (by omega), show ((f : Nat) : Int).toNat = f by omega, if_neg (by omega), show (a.fr + (i : Int) - a.fr).toNat = i by omega]
    have : narB (gB (fldL a f) i) ⟨v, v⟩ = some ⟨v, v⟩ := by
      simp only [inB] at hv
      unfold narB
      rw [if_pos (by simp only; omega), meetB]
      simp only [Option.some.injEq, Bd.mk.injEq]
      omega
    rw [this]
  · rcases hf with rfl | rfl | rfl
    · exact ⟨h.n1, h.n2, h.no, by simp [setL, fldL, h.ns], h.f0, h.f1, set_fitB h.bs hvf, h.bi, h.bo⟩
    · refine ⟨?_, ?_, ?_, ?_, h.f0, ?_, h.bs, set_fitB h.bi hvf, h.bo⟩ <;> simp only [setL, fldL, if_true, if_false, List.length_set, reduceCtorEq, Nat.reduceEqDiff]
      · exact h.n1
      · exact h.n2
      · exact h.no
      · exact h.ns
      · exact h.f1
    · exact ⟨h.n1, h.n2, by simp [setL, fldL, h.no], h.ns, h.f0, h.f1, h.bs, h.bi, set_fitB h.bo hvf⟩
  · rcases hf with rfl | rfl | rfl <;> simp [setL, fldL]
  · intro s x y
    have con : ∀ {S X Y : Nat → Bd}, Hi S X Y a.ins.length s x y ↔ (∀ j, j < a.ins.length + 1 → inB (S j) (s j)) ∧ (∀ j, j < a.ins.length → inB (X j) (x j)) ∧ (∀ j, j < a.ins.length → inB (Y j) (y j)) ∧ ∀ j, j < a.ins.length → s (j + 1) = s j + x j - y j :=
      ⟨fun h => ⟨fun j hj => h.st j (by omega), h.ins, h.outs, h.bal⟩, fun h => ⟨fun j hj => h.1 j (by omega), h.2.1, h.2.2.1, h.2.2.2⟩⟩
    unfold HiA
    rw [con, con]
    rcases hf with rfl | rfl | rfl
    · have := set_in (s := s) hi h.ns hv
      simp only [setL, fldL, nth3, if_true] at this ⊢
      rw [this]
      constructor
      · rintro ⟨⟨h1, h2⟩, h3⟩; exact ⟨⟨h1, h3⟩, h2⟩
      · rintro ⟨⟨h1, h3⟩, h2⟩; exact ⟨⟨h1, h2⟩, h3⟩
    · have := set_in (s := x) hi rfl hv
      simp only [setL, fldL, nth3, if_true, if_false, Nat.reduceEqDiff] at this ⊢
      rw [this]
      constructor
      · rintro ⟨h0, ⟨h1, h2⟩, h3⟩; exact ⟨⟨h0, h1, h3⟩, h2⟩
      · rintro ⟨⟨h0, h1, h3⟩, h2⟩; exact ⟨h0, ⟨h1, h2⟩, h3⟩
    · have := set_in (s := y) hi h.no hv
      simp only [setL, fldL, nth3, if_false, Nat.reduceEqDiff] at this ⊢
      rw [this]
      constructor
      · rintro ⟨h0, h00, ⟨h1, h2⟩, h3⟩; exact ⟨⟨h0, h00, h1, h3⟩, h2⟩
      · rintro ⟨⟨h0, h00, h1, h3⟩, h2⟩; exact ⟨h0, h00, ⟨h1, h2⟩, h3⟩
abbrev Ac.tg (a : Ac) : Ac := tgt a
theorem HiA.vd {a : Ac} {s x y : Nat → Int} (h : HiA a a.ins.length s x y) : VD a.st a.ins a.outs a.ins.length := fun i hi => (Hi.vd h).f i hi
theorem tgt_len (a : Ac) : (tgt a).ins.length = a.ins.length := mkL_length _ _
theorem HiA.tgt {a : Ac} {s x y : Nat → Int} (h : HiA a a.ins.length s x y) : HiA (tgt a) a.ins.length s x y := by
  have h1 := Hi.left h
  exact ⟨fun i hi => by rw [tgt_st hi]; exact h1.st i hi, fun i hi => by rw [tgt_ins hi]; exact h1.ins i hi, fun i hi => by rw [tgt_outs hi]; exact h1.outs i hi, h1.bal⟩
theorem HiA.of_tgt {a : Ac} {s x y : Nat → Int} (h : HiA (Ac.tg a) a.ins.length s x y) : HiA a a.ins.length s x y := by
  refine Hi.of_left ⟨fun i hi => ?_, fun i hi => ?_, fun i hi => ?_, h.bal⟩
  · have := h.st i hi; rw [tgt_st hi] at this; exact this
  · have := h.ins i hi; rw [tgt_ins hi] at this; exact this
  · have := h.outs i hi; rw [tgt_outs hi] at this; exact this
/-- What is drawn is a history of the account. -/
theorem Drn.hi {a : Ac} {n : Nat} {S I O : List Int} (h : Drn a n S I O) : a.ins.length = n ∧ HiA a n (fun i => S.getD i 0) (fun i => I.getD i 0) (fun i => O.getD i 0) := by
  have h1 := h.h.ls
  have h2 := h.h.li
  have h3 := h.h.lo
  refine ⟨by rw [h.i.ln, h2], fun i hi => ?_, fun i hi => ?_, fun i hi => ?_, h.h.bal⟩
  · have := h.s.b i (by omega); exact ⟨this.2.1, this.2.2.1⟩
  · have := h.i.b i (by omega); exact ⟨this.2.1, this.2.2.1⟩
  · have := h.o.b i (by omega); exact ⟨this.2.1, this.2.2.1⟩
theorem AcOK.l {a : Ac} (h : AcOK a) : AcL a := by
  have := h.n2; have := h.no; have := h.ns
  exact ⟨by omega, by omega, by omega⟩
theorem bd_ext {b c : Bd} (hb : valB b) (hc : valB c) (h1 : ∀ v, inB b v → inB c v) (h2 : ∀ v, inB c v → inB b v) : b = c := by
  have a1 := h1 _ ⟨Int.le_refl _, hb⟩
  have a2 := h1 _ ⟨hb, Int.le_refl _⟩
  have a3 := h2 _ ⟨Int.le_refl _, hc⟩
  have a4 := h2 _ ⟨hc, Int.le_refl _⟩
  rw [bd_eq]
  simp only [inB] at *
  omega
theorem ac_ext : ∀ {a b : Ac}, a.fr = b.fr → a.st = b.st → a.ins = b.ins → a.outs = b.outs → a = b
  | ⟨_, _, _, _⟩, ⟨_, _, _, _⟩, rfl, rfl, rfl, rfl => rfl
section
variable {a : Ac} (h : AcOK a) (hv : VD a.st a.ins a.outs a.ins.length)
include h hv
theorem cB_iff {i : Nat} (hi : i ≤ a.ins.length) (v : Int) : inB (cB a.st a.ins a.outs a.ins.length i) v ↔ ∃ s x y, HiA a a.ins.length s x y ∧ s i = v :=
  ⟨fun hh => (h.lens.vd hv).hiS hi hh, fun ⟨s, x, y, hh, e⟩ => e ▸ Hi.B hh hi⟩
theorem cX_iff {i : Nat} (hi : i < a.ins.length) (v : Int) : inB (cX a.st a.ins a.outs a.ins.length i) v ↔ ∃ s x y, HiA a a.ins.length s x y ∧ x i = v :=
  ⟨fun hh => (h.lens.vd hv).hiX hi hh, fun ⟨s, x, y, hh, e⟩ => e ▸ (Hi.left hh).ins i hi⟩
theorem cY_iff {i : Nat} (hi : i < a.ins.length) (v : Int) : inB (cY a.st a.ins a.outs a.ins.length i) v ↔ ∃ s x y, HiA a a.ins.length s x y ∧ y i = v :=
  ⟨fun hh => (h.lens.vd hv).hiY hi hh, fun ⟨s, x, y, hh, e⟩ => e ▸ (Hi.left hh).outs i hi⟩
theorem some_hi : ∃ s x y, HiA a a.ins.length s x y := by
  obtain ⟨s, x, y, hh, _⟩ := (cB_iff h hv (Nat.zero_le _) _).1 ⟨Int.le_refl _, (h.lens.vd hv).B (Nat.zero_le _)⟩
  exact ⟨s, x, y, hh⟩
theorem tgt_vd : VD (tgt a).st (tgt a).ins (tgt a).outs (tgt a).ins.length := by
  obtain ⟨s, x, y, hh⟩ := some_hi h hv
  exact HiA.vd (by rw [tgt_len]; exact hh.tgt)
/-- **To make an account narrower twice is to do it once.** -/
theorem tgt_tgt : tgt (tgt a) = tgt a := by
  have h2 := tgt_ok h hv
  have hv2 := tgt_vd h hv
  have hl := tgt_len a
  have con : ∀ s x y, HiA (tgt a) (tgt a).ins.length s x y ↔ HiA a a.ins.length s x y := fun s x y => by rw [hl]; exact ⟨HiA.of_tgt, HiA.tgt⟩
  have e1 : (tgt (tgt a)).st = (tgt a).st := by
    show mkL _ _ = _
    refine mkL_eq (by rw [hl]; exact mkL_length _ _) fun i hi => ?_
    rw [hl] at hi
    rw [tgt_st (by omega)]
    refine bd_ext ((h2.lens.vd hv2).B (by omega)) ((h.lens.vd hv).B (by omega)) (fun v => ?_) fun v => ?_
    · intro hh
      rw [cB_iff h2 hv2 (by omega)] at hh
      rw [cB_iff h hv (by omega)]
      simpa only [con] using hh
    · intro hh
      rw [cB_iff h hv (by omega)] at hh
      rw [cB_iff h2 hv2 (by omega)]
      simpa only [con] using hh
  have e2 : (tgt (tgt a)).ins = (tgt a).ins := by
    show mkL _ _ = _
    refine mkL_eq rfl fun i hi => ?_
    rw [hl] at hi
    rw [tgt_ins (by omega)]
    refine bd_ext ((h2.lens.vd hv2).cx (by omega)) ((h.lens.vd hv).cx (by omega)) (fun v => ?_) fun v => ?_
    · intro hh
      have hh := (cX_iff h2 hv2 (by omega) v).1 hh
      refine (cX_iff h hv (by omega) v).2 ?_
      simpa only [con] using hh
    · intro hh
      have hh := (cX_iff h hv (by omega) v).1 hh
      refine (cX_iff h2 hv2 (by omega) v).2 ?_
      simpa only [con] using hh
  have e3 : (tgt (tgt a)).outs = (tgt a).outs := by
    show mkL _ _ = _
    refine mkL_eq (by rw [hl]; exact mkL_length _ _) fun i hi => ?_
    rw [hl] at hi
    rw [tgt_outs (by omega)]
    refine bd_ext ((h2.lens.vd hv2).cy (by omega)) ((h.lens.vd hv).cy (by omega)) (fun v => ?_) fun v => ?_
    · intro hh
      have hh := (cY_iff h2 hv2 (by omega) v).1 hh
      refine (cY_iff h hv (by omega) v).2 ?_
      simpa only [con] using hh
    · intro hh
      have hh := (cY_iff h hv (by omega) v).1 hh
      refine (cY_iff h2 hv2 (by omega) v).2 ?_
      simpa only [con] using hh
  have e0 : (tgt (tgt a)).fr = (tgt a).fr := rfl
  exact ac_ext e0 e1 e2 e3
end
theorem sum_le : ∀ {L M : List Bd}, L.length = M.length → (∀ i, i < L.length → (gB M i).lo ≤ (gB L i).lo ∧ (gB L i).hi ≤ (gB M i).hi) → widL L ≤ widL M
  | [], [], _, _ => Int.le_refl _
  | [], _ :: _, h, _ => by simp at h
  | _ :: _, [], h, _ => by simp at h
  | b :: L, c :: M, h, hh => by
    have h0 := hh 0 (by simp)
    have h1 := sum_le (L := L) (M := M) (by simpa using h) fun i hi => by
      have := hh (i + 1) (by simp; omega)
      simpa [gB] using this
    simp only [gB, List.getD_cons_zero] at h0
    simp only [widL, List.map_cons, List.sum_cons] at h1 ⊢
    omega
theorem wid_le {a : Ac} (h : AcOK a) (hv : VD a.st a.ins a.outs a.ins.length) : widK (tgt a) 3 ≤ widK a 3 := by
  have hl := tgt_len a
  have hls : (tgt a).st.length = a.ins.length + 1 := mkL_length _ _
  have hlo : (tgt a).outs.length = a.ins.length := mkL_length _ _
  have hs := h.ns
  have ho := h.no
  have sub : ∀ {b c : Bd}, valB b → (∀ v, inB b v → inB c v) → c.lo ≤ b.lo ∧ b.hi ≤ c.hi := fun hb hh => ⟨(hh _ ⟨Int.le_refl _, hb⟩).1, (hh _ ⟨hb, Int.le_refl _⟩).2⟩
  have w1 : widL (tgt a).st ≤ widL a.st := sum_le (by omega) fun i hi => by
    rw [tgt_st (by omega)]
    refine sub ((h.lens.vd hv).B (by omega)) fun v hh => ?_
    obtain ⟨s, x, y, h9, rfl⟩ := (cB_iff h hv (by omega) v).1 hh
    exact h9.st i (by omega)
  have w2 : widL (tgt a).ins ≤ widL a.ins := sum_le (by omega) fun i hi => by
    rw [tgt_ins (by omega)]
    refine sub ((h.lens.vd hv).cx (by omega)) fun v hh => ?_
    obtain ⟨s, x, y, h9, rfl⟩ := (cX_iff h hv (by omega) v).1 hh
    exact h9.ins i (by omega)
  have w3 : widL (tgt a).outs ≤ widL a.outs := sum_le (by omega) fun i hi => by
    rw [tgt_outs (by omega)]
    refine sub ((h.lens.vd hv).cy (by omega)) fun v hh => ?_
    obtain ⟨s, x, y, h9, rfl⟩ := (cY_iff h hv (by omega) v).1 hh
    exact h9.outs i (by omega)
  simp only [widK, if_true, show 1 ≤ 3 by omega, show 2 ≤ 3 by omega]
  omega
theorem Hst.exok {n : Nat} {S I O : List Int} (h : Hst n S I O) (h1 : 1 ≤ n) (h5 : n ≤ 5) : AcOK ⟨0, exL S, exL I, exL O⟩ := by
  have hS := h.ls
  have hI := h.li
  have hO := h.lo
  refine ⟨by simp only [exL_len]; omega, by simp only [exL_len]; omega, by simp only [exL_len]; omega, by simp only [exL_len]; omega, by simp only; omega, by simp only [exL_len]; omega, exL_fit fun i hi => ?_, exL_fit fun i hi => ?_, exL_fit fun i hi => ?_⟩
  · have := h.s i (by omega); omega
  · have := h.i i (by omega); omega
  · have := h.o i (by omega); omega
theorem Hst.res {n : Nat} {S I O : List Int} (h : Hst n S I O) (h1 : 1 ≤ n) (h5 : n ≤ 5) : resS ⟨0, exL S, exL I, exL O⟩ = (mkL n fun _ => ⟨0, 0⟩, 0) := by
  have hS := h.ls
  have hI := h.li
  have hO := h.lo
  unfold resS
  rw [if_neg (by simp [chk_ok.2 (h.exok h1 h5)])]
  simp only [exL_len, hI]
  congr 1
  refine mkL_ext fun i hi => ?_
  have := h.bal i hi
  simp only [rsB]
  rw [gB_exL (by omega), gB_exL (by omega), gB_exL (by omega), gB_exL (by omega)]
  rw [bd_eq]
  simp only
  omega
/-! ALL HISTORIES OF A SMALL ACCOUNT -/
abbrev U5 := Int × Int × Int × Int × Int
/-- the numbers of a history of two steps: stocks, flows in, flows out -/
def hv7 (u : U5) : Nat → Int
  | 0 => u.1
  | 1 => u.1 + u.2.1 - u.2.2.1
  | 2 => u.1 + u.2.1 - u.2.2.1 + u.2.2.2.1 - u.2.2.2.2
  | 3 => u.2.1
  | 4 => u.2.2.2.1
  | 5 => u.2.2.1
  | _ => u.2.2.2.2
def val7 (f : Nat → Int) (u : U5) : Prop := ∀ j, j < 7 → f (2 * j) ≤ hv7 u j ∧ hv7 u j ≤ f (2 * j + 1)
/-- g is the hull of what is valid in R -/
structure Hull (f : Nat → Int) (found : Bool) (g : Nat → Int) (R : U5 → Prop) : Prop where
  no : found = false → ∀ u, R u → ¬ val7 f u
  all : found = true → ∀ j, j < 7 → ∀ u, R u → val7 f u → g (2 * j) ≤ hv7 u j ∧ hv7 u j ≤ g (2 * j + 1)
  lo : found = true → ∀ j, j < 7 → ∃ u, R u ∧ val7 f u ∧ hv7 u j = g (2 * j)
  hi : found = true → ∀ j, j < 7 → ∃ u, R u ∧ val7 f u ∧ hv7 u j = g (2 * j + 1)
theorem Hull.congr {f g : Nat → Int} {found : Bool} {R R' : U5 → Prop} (h : Hull f found g R) (hR : ∀ u, val7 f u → (R' u ↔ R u)) : Hull f found g R' :=
  ⟨fun hf u hu hv => h.no hf u ((hR u hv).1 hu) hv, fun hf j hj u hu hv => h.all hf j hj u ((hR u hv).1 hu) hv,
    fun hf j hj => by obtain ⟨u, h1, h2, h3⟩ := h.lo hf j hj; exact ⟨u, (hR u h2).2 h1, h2, h3⟩,
    fun hf j hj => by obtain ⟨u, h1, h2, h3⟩ := h.hi hf j hj; exact ⟨u, (hR u h2).2 h1, h2, h3⟩⟩
/-- the hull, a history more in its first k places -/
def hul (found : Bool) (g : Nat → Int) (u : U5) (k j : Nat) : Int :=
  if j / 2 < k then (if j % 2 = 0 then (if found then min (g j) (hv7 u (j / 2)) else hv7 u (j / 2)) else (if found then max (g j) (hv7 u (j / 2)) else hv7 u (j / 2))) else g j
theorem hul_lo (found : Bool) (g : Nat → Int) (u : U5) {j : Nat} (h : j < 7) : hul found g u 7 (2 * j) = if found then min (g (2 * j)) (hv7 u j) else hv7 u j := by
  have h1 : 2 * j / 2 = j := by omega
  have h2 : 2 * j % 2 = 0 := by omega
  simp only [hul, h1, h2, h, if_true]
theorem hul_hi (found : Bool) (g : Nat → Int) (u : U5) {j : Nat} (h : j < 7) : hul found g u 7 (2 * j + 1) = if found then max (g (2 * j + 1)) (hv7 u j) else hv7 u j := by
  have h1 : (2 * j + 1) / 2 = j := by omega
  have h2 : ¬ (2 * j + 1) % 2 = 0 := by omega
  simp only [hul, h1, h2, h, if_true, if_false]
theorem Hull.step {f g : Nat → Int} {found : Bool} {R R' : U5 → Prop} (h : Hull f found g R) {u : U5} (hu : val7 f u) (hR : ∀ w, R' w ↔ R w ∨ w = u) : Hull f true (hul found g u 7) R' := by
  refine ⟨fun hf => (by cases hf), fun _ j hj w hw hv => ?_, fun _ j hj => ?_, fun _ j hj => ?_⟩
  · rw [hul_lo found g u hj, hul_hi found g u hj]
    rcases (hR w).1 hw with h1 | rfl
    · cases found
      · exact absurd hv (h.no rfl w h1)
      · have := h.all rfl j hj w h1 hv
        simp only [if_true]; omega
    · cases found <;> simp only [if_true, Bool.false_eq_true, if_false] <;> omega
  · rw [hul_lo found g u hj]
    cases found
    · exact ⟨u, (hR u).2 (.inr rfl), hu, by simp⟩
    · simp only [if_true]
      rcases Int.le_total (g (2 * j)) (hv7 u j) with h1 | h1
      · obtain ⟨w, w1, w2, w3⟩ := h.lo rfl j hj
        exact ⟨w, (hR w).2 (.inl w1), w2, by omega⟩
      · exact ⟨u, (hR u).2 (.inr rfl), hu, by omega⟩
  · rw [hul_hi found g u hj]
    cases found
    · exact ⟨u, (hR u).2 (.inr rfl), hu, by simp⟩
    · simp only [if_true]
      rcases Int.le_total (g (2 * j + 1)) (hv7 u j) with h1 | h1
      · exact ⟨u, (hR u).2 (.inr rfl), hu, by omega⟩
      · obtain ⟨w, w1, w2, w3⟩ := h.hi rfl j hj
        exact ⟨w, (hR w).2 (.inl w1), w2, by omega⟩
theorem Hull.skip {f g : Nat → Int} {found : Bool} {R R' : U5 → Prop} (h : Hull f found g R) {u : U5} (hu : ¬ val7 f u) (hR : ∀ w, R' w ↔ R w ∨ w = u) : Hull f found g R' :=
  h.congr fun w hw => by
    rw [hR]
    exact ⟨fun h => h.elim id fun e => absurd (e ▸ hw) hu, .inl⟩
/-- the account -/
def ac7 (f : Nat → Int) : Ac := ⟨0, [⟨f 0, f 1⟩, ⟨f 2, f 3⟩, ⟨f 4, f 5⟩], [⟨f 6, f 7⟩, ⟨f 8, f 9⟩], [⟨f 10, f 11⟩, ⟨f 12, f 13⟩]⟩
def good7 (f : Nat → Int) (k : Nat) : Prop := ∀ j, j < k → 0 ≤ f (2 * j) ∧ f (2 * j) ≤ f (2 * j + 1) ∧ f (2 * j + 1) ≤ 1000
theorem good7.ok {f : Nat → Int} (h : good7 f 7) : AcOK (ac7 f) := by
  have a0 := h 0 (by omega)
  have a1 := h 1 (by omega)
  have a2 := h 2 (by omega)
  have a3 := h 3 (by omega)
  have a4 := h 4 (by omega)
  have a5 := h 5 (by omega)
  have a6 := h 6 (by omega)
  simp only [Nat.reduceMul, Nat.reduceAdd] at a0 a1 a2 a3 a4 a5 a6
  refine ⟨by simp [ac7], by simp [ac7], rfl, rfl, by simp [ac7], by simp [ac7], ?_, ?_, ?_⟩ <;> simp only [ac7, List.mem_cons, List.not_mem_nil, or_false, forall_eq_or_imp, forall_eq, fitB, mxV] <;> omega
theorem hi7 {f : Nat → Int} {s x y : Nat → Int} (h : HiA (ac7 f) 2 s x y) : val7 f (s 0, x 0, y 0, x 1, y 1) ∧ s 1 = hv7 (s 0, x 0, y 0, x 1, y 1) 1 ∧ s 2 = hv7 (s 0, x 0, y 0, x 1, y 1) 2 := by
  have b0 := h.bal 0 (by omega)
  have b1 := h.bal 1 (by omega)
  have s0 := h.st 0 (by omega)
  have s1 := h.st 1 (by omega)
  have s2 := h.st 2 (by omega)
  have x0 := h.ins 0 (by omega)
  have x1 := h.ins 1 (by omega)
  have y0 := h.outs 0 (by omega)
  have y1 := h.outs 1 (by omega)
  simp only [Nat.zero_add, Nat.reduceAdd] at b0 b1
  simp [ac7, gB, inB] at s0 s1 s2 x0 x1 y0 y1
  refine ⟨fun j hj => ?_, by simp only [hv7]; omega, by simp only [hv7]; omega⟩
  rcases (by omega : j = 0 ∨ j = 1 ∨ j = 2 ∨ j = 3 ∨ j = 4 ∨ j = 5 ∨ j = 6) with rfl | rfl | rfl | rfl | rfl | rfl | rfl <;> simp only [hv7, Nat.reduceMul, Nat.reduceAdd] <;> omega
theorem of_hi7 {f : Nat → Int} {u : U5} (h : val7 f u) : HiA (ac7 f) 2 (fun i => hv7 u i) (fun i => hv7 u (3 + i)) (fun i => hv7 u (5 + i)) := by
  have a0 := h 0 (by omega)
  have a1 := h 1 (by omega)
  have a2 := h 2 (by omega)
  have a3 := h 3 (by omega)
  have a4 := h 4 (by omega)
  have a5 := h 5 (by omega)
  have a6 := h 6 (by omega)
  simp only [Nat.reduceMul, Nat.reduceAdd] at a0 a1 a2 a3 a4 a5 a6
  refine ⟨fun i hi => ?_, fun i hi => ?_, fun i hi => ?_, fun i hi => ?_⟩
  · rcases (by omega : i = 0 ∨ i = 1 ∨ i = 2) with rfl | rfl | rfl <;> simp only [ac7, gB, inB] <;> first | exact a0 | exact a1 | exact a2
  · rcases (by omega : i = 0 ∨ i = 1) with rfl | rfl <;> simp only [ac7, gB, inB] <;> first | exact a3 | exact a4
  · rcases (by omega : i = 0 ∨ i = 1) with rfl | rfl <;> simp only [ac7, gB, inB] <;> first | exact a5 | exact a6
  · rcases (by omega : i = 0 ∨ i = 1) with rfl | rfl <;> simp only [hv7, Nat.zero_add, Nat.reduceAdd]
theorem all_no {f : Nat → Int} (hg : good7 f 7) (h : ∀ u, ¬ val7 f u) : tightS (ac7 f) = (acZ, 48) :=
  tightS_no hg.ok fun hv => by
    obtain ⟨s, x, y, hh⟩ := some_hi hg.ok hv
    exact h _ (hi7 hh).1
theorem hull_eq {f g : Nat → Int} (h : Hull f true g fun _ => True) {b : Bd} {j : Nat} (hj : j < 7) (hb : valB b) (h1 : ∀ v, inB b v → ∃ u, val7 f u ∧ hv7 u j = v) (h2 : ∀ u, val7 f u → inB b (hv7 u j)) : b = ⟨g (2 * j), g (2 * j + 1)⟩ := by
  obtain ⟨u1, _, v1, e1⟩ := h.lo rfl j hj
  obtain ⟨u2, _, v2, e2⟩ := h.hi rfl j hj
  have a1 := h2 u1 v1
  have a2 := h2 u2 v2
  obtain ⟨u3, v3, e3⟩ := h1 b.lo ⟨Int.le_refl _, hb⟩
  obtain ⟨u4, v4, e4⟩ := h1 b.hi ⟨hb, Int.le_refl _⟩
  have a3 := h.all rfl j hj u3 trivial v3
  have a4 := h.all rfl j hj u4 trivial v4
  rw [bd_eq]
  simp only [inB] at a1 a2
  simp only
  omega
theorem all_yes {f g : Nat → Int} (hg : good7 f 7) (h : Hull f true g fun _ => True) : tightS (ac7 f) = (tgt (ac7 f), 0) ∧
    (tgt (ac7 f)).st = [⟨g 0, g 1⟩, ⟨g 2, g 3⟩, ⟨g 4, g 5⟩] ∧ (tgt (ac7 f)).ins = [⟨g 6, g 7⟩, ⟨g 8, g 9⟩] ∧ (tgt (ac7 f)).outs = [⟨g 10, g 11⟩, ⟨g 12, g 13⟩] := by
  obtain ⟨u, _, hu, _⟩ := h.lo rfl 0 (by omega)
  have hok := hg.ok
  have hv : VD (ac7 f).st (ac7 f).ins (ac7 f).outs (ac7 f).ins.length := HiA.vd (of_hi7 hu)
  have S : ∀ i, i ≤ 2 → cB (ac7 f).st (ac7 f).ins (ac7 f).outs (ac7 f).ins.length i = ⟨g (2 * i), g (2 * i + 1)⟩ := fun i hi => by
    refine hull_eq h (by omega) ((hok.lens.vd hv).B (show i ≤ (ac7 f).ins.length from hi)) (fun v hh => ?_) fun w hw => ?_
    · obtain ⟨s, x, y, h1, rfl⟩ := (cB_iff hok hv hi v).1 hh
      obtain ⟨h2, h3, h4⟩ := hi7 h1
      refine ⟨_, h2, ?_⟩
      rcases (by omega : i = 0 ∨ i = 1 ∨ i = 2) with rfl | rfl | rfl
      · rfl
      · exact h3.symm
      · exact h4.symm
    · exact (cB_iff hok hv hi _).2 ⟨_, _, _, of_hi7 hw, rfl⟩
  have X : ∀ i, i < 2 → cX (ac7 f).st (ac7 f).ins (ac7 f).outs (ac7 f).ins.length i = ⟨g (2 * (3 + i)), g (2 * (3 + i) + 1)⟩ := fun i hi => by
    refine hull_eq h (by omega) ((hok.lens.vd hv).cx (show i < (ac7 f).ins.length from hi)) (fun v hh => ?_) fun w hw => ?_
    · obtain ⟨s, x, y, h1, rfl⟩ := (cX_iff hok hv hi v).1 hh
      refine ⟨_, (hi7 h1).1, ?_⟩
      rcases (by omega : i = 0 ∨ i = 1) with rfl | rfl <;> rfl
    · exact (cX_iff hok hv hi _).2 ⟨_, _, _, of_hi7 hw, rfl⟩
  have Y : ∀ i, i < 2 → cY (ac7 f).st (ac7 f).ins (ac7 f).outs (ac7 f).ins.length i = ⟨g (2 * (5 + i)), g (2 * (5 + i) + 1)⟩ := fun i hi => by
    refine hull_eq h (by omega) ((hok.lens.vd hv).cy (show i < (ac7 f).ins.length from hi)) (fun v hh => ?_) fun w hw => ?_
    · obtain ⟨s, x, y, h1, rfl⟩ := (cY_iff hok hv hi v).1 hh
      refine ⟨_, (hi7 h1).1, ?_⟩
      rcases (by omega : i = 0 ∨ i = 1) with rfl | rfl <;> rfl
    · exact (cY_iff hok hv hi _).2 ⟨_, _, _, of_hi7 hw, rfl⟩
  refine ⟨tightS_yes hok hv, ?_, ?_, ?_⟩
  · show mkL 3 _ = _
    simp only [mkL, List.range, List.range.loop, List.map_cons, List.map_nil]
    rw [S 0 (by omega), S 1 (by omega), S 2 (by omega)]
  · show mkL 2 _ = _
    simp only [mkL, List.range, List.range.loop, List.map_cons, List.map_nil]
    rw [X 0 (by omega), X 1 (by omega)]
  · show mkL 2 _ = _
    simp only [mkL, List.range, List.range.loop, List.map_cons, List.map_nil]
    rw [Y 0 (by omega), Y 1 (by omega)]
def cl14 (f : Nat → Int) : AV := .agg [.int .i64 (f 0), .int .i64 (f 1), .int .i64 (f 2), .int .i64 (f 3), .int .i64 (f 4), .int .i64 (f 5), .int .i64 (f 6), .int .i64 (f 7), .int .i64 (f 8), .int .i64 (f 9), .int .i64 (f 10), .int .i64 (f 11), .int .i64 (f 12), .int .i64 (f 13)]
def LA (f : Nat → Int) (T : Ac) (c3 c4 : Nat) (σ : St) (X : AV) (R : U5 → Prop) : Prop :=
  σ.ob 1 = some ⟨1, 14, 29, true, true, [cl14 f]⟩ ∧ σ.ob 3 = some ⟨c3, 4, 33, false, true, [.agg [.int .i64 T.fr, .list 2 (bds T.st), .list 2 (bds T.ins), .list 2 (bds T.outs)]]⟩ ∧
    ∃ found g, X = .bool found ∧ σ.ob 4 = some ⟨c4, 14, 29, false, true, [cl14 g]⟩ ∧ Hull f found g R
theorem LA.congr {f : Nat → Int} {T : Ac} {c3 c4 : Nat} {σ : St} {X : AV} {R R' : U5 → Prop} (h : LA f T c3 c4 σ X R) (hR : ∀ u, val7 f u → (R' u ↔ R u)) : LA f T c3 c4 σ X R' := by
  obtain ⟨h1, h2, found, g, h3, h4, h5⟩ := h
  exact ⟨h1, h2, found, g, h3, h4, h5.congr hR⟩
theorem LA.trunc {f : Nat → Int} {T : Ac} {c3 c4 : Nat} {σ : St} {X : AV} {R : U5 → Prop} (h : LA f T c3 c4 σ X R) {n : Nat} (hn : 5 ≤ n) : LA f T c3 c4 (σ.trunc n) X R := by
  obtain ⟨h1, h2, found, g, h3, h4, h5⟩ := h
  refine ⟨?_, ?_, found, g, h3, ?_, h5⟩
  · simp only [St.trunc]; rw [if_pos (by omega)]; exact h1
  · simp only [St.trunc]; rw [if_pos (by omega)]; exact h2
  · simp only [St.trunc]; rw [if_pos (by omega)]; exact h4
theorem LA.mv {f : Nat → Int} {T : Ac} {c3 c4 : Nat} {σ τ : St} {X : AV} {R : U5 → Prop} (h : LA f T c3 c4 σ X R) (hf : ∀ i, i < 5 → τ.ob i = σ.ob i) : LA f T c3 c4 τ X R := by
  obtain ⟨h1, h2, found, g, h3, h4, h5⟩ := h
  exact ⟨by rw [hf 1 (by omega)]; exact h1, by rw [hf 3 (by omega)]; exact h2, found, g, h3, by rw [hf 4 (by omega)]; exact h4, h5⟩
theorem LA.skip {f : Nat → Int} {T : Ac} {c3 c4 : Nat} {σ : St} {X : AV} {R R' : U5 → Prop} (h : LA f T c3 c4 σ X R) {u : U5} (hu : ¬ val7 f u) (hR : ∀ w, R' w ↔ R w ∨ w = u) : LA f T c3 c4 σ X R' := by
  obtain ⟨h1, h2, found, g, h3, h4, h5⟩ := h
  exact ⟨h1, h2, found, g, h3, h4, h5.skip hu hR⟩
theorem u5_ext {w : U5} {a b c d e : Int} : w = (a, b, c, d, e) ↔ w.1 = a ∧ w.2.1 = b ∧ w.2.2.1 = c ∧ w.2.2.2.1 = d ∧ w.2.2.2.2 = e := by
  obtain ⟨a', b', c', d', e'⟩ := w
  simp only [Prod.mk.injEq]
theorem val7.b {f : Nat → Int} {u : U5} (h : val7 f u) : (f 0 ≤ u.1 ∧ u.1 ≤ f 1) ∧ (f 6 ≤ u.2.1 ∧ u.2.1 ≤ f 7) ∧ (f 10 ≤ u.2.2.1 ∧ u.2.2.1 ≤ f 11) ∧ (f 8 ≤ u.2.2.2.1 ∧ u.2.2.2.1 ≤ f 9) ∧ (f 12 ≤ u.2.2.2.2 ∧ u.2.2.2.2 ≤ f 13) :=
  ⟨h 0 (by omega), h 3 (by omega), h 5 (by omega), h 4 (by omega), h 6 (by omega)⟩
theorem Hull.start {f g : Nat → Int} {R : U5 → Prop} (h : ∀ u, R u → ¬ val7 f u) : Hull f false g R := by
  constructor
  · exact fun _ => h
  · intro h; cases h
  · intro h; cases h
  · intro h; cases h
theorem hul_zero (found : Bool) (g : Nat → Int) (u : U5) : hul found g u 0 = g := by funext j; simp [hul]
set_option maxHeartbeats 8000000
theorem ok_law30_LedgerAll (t : List Int) : PC prog n_law30_LedgerAll [.list 1 (ints t)] (.bool true) := by
  refine PC_of_body b_law30_LedgerAll (by simp) ?_
  simp only [c_law30_LedgerAll, go_sem, Int.reduceEq, Int.reduceLT, Int.reduceLE, Int.reduceToNat, Nat.reduceLT, Nat.reduceEqDiff, Nat.reduceAdd, Nat.reduceLeDiff, Nat.reduceSub, Nat.reduceMul, ↓reduceIte, reduceCtorEq, w_app_nl]
  try simp (maxSteps := 500000) (disch := omega) only [go_sem, Int.reduceEq, Int.reduceLT, Int.reduceLE, Int.reduceToNat, Nat.reduceLT, Nat.reduceEqDiff, Nat.reduceAdd, Nat.reduceLeDiff, Nat.reduceSub, Nat.reduceMul, ↓reduceIte, reduceCtorEq, wrap_id, w_ite_ne, w_ite_lt, Nat.sub_zero, Nat.sub_self]
  refine call_pc ok_law30_sane (by simp) ?_
  try simp (maxSteps := 500000) (disch := omega) only [go_sem, Int.reduceEq, Int.reduceLT, Int.reduceLE, Int.reduceToNat, Nat.reduceLT, Nat.reduceEqDiff, Nat.reduceAdd, Nat.reduceLeDiff, Nat.reduceSub, Nat.reduceMul, ↓reduceIte, reduceCtorEq, wrap_id, w_ite_ne, w_ite_lt, Nat.sub_zero, Nat.sub_self]
  refine call_pc (ok_mk_Few t) (by simp [go_sem]) ?_
  try simp (maxSteps := 500000) (disch := omega) only [go_sem, Int.reduceEq, Int.reduceLT, Int.reduceLE, Int.reduceToNat, Nat.reduceLT, Nat.reduceEqDiff, Nat.reduceAdd, Nat.reduceLeDiff, Nat.reduceSub, Nat.reduceMul, ↓reduceIte, reduceCtorEq, wrap_id, w_ite_ne, w_ite_lt, Nat.sub_zero, Nat.sub_self]
  cases hfew : fewB t
  · try simp (maxSteps := 500000) (disch := omega) only [go_sem, Int.reduceEq, Int.reduceLT, Int.reduceLE, Int.reduceToNat, Nat.reduceLT, Nat.reduceEqDiff, Nat.reduceAdd, Nat.reduceLeDiff, Nat.reduceSub, Nat.reduceMul, ↓reduceIte, reduceCtorEq, wrap_id, w_ite_ne, w_ite_lt, Nat.sub_zero, Nat.sub_self]
    exact Pub.of_eq rfl rfl
  have hlt : t.length ≤ 9223372036854775807 := by simp [fewB] at hfew; omega
  try simp (maxSteps := 500000) (disch := omega) only [go_sem, Int.reduceEq, Int.reduceLT, Int.reduceLE, Int.reduceToNat, Nat.reduceLT, Nat.reduceEqDiff, Nat.reduceAdd, Nat.reduceLeDiff, Nat.reduceSub, Nat.reduceMul, ↓reduceIte, reduceCtorEq, wrap_id, w_ite_ne, w_ite_lt, Nat.sub_zero, Nat.sub_self]
  refine call_hc (ok_mk_New _ t) ?_
  try simp (maxSteps := 500000) (disch := omega) only [go_sem, Int.reduceEq, Int.reduceLT, Int.reduceLE, Int.reduceToNat, Nat.reduceLT, Nat.reduceEqDiff, Nat.reduceAdd, Nat.reduceLeDiff, Nat.reduceSub, Nat.reduceMul, ↓reduceIte, reduceCtorEq, wrap_id, w_ite_ne, w_ite_lt, Nat.sub_zero, Nat.sub_self]
  refine awp_upF [5, 6, 28, 29, 30, 31, 32, 33, 34, 35, 36, 37, 38, 39, 40, 41] (by kernel_rfl) 7 (fun k e σ => e 28 = .int .i64 k ∧ (∃ a, σ.ob 0 = some ⟨0, 2, ty_Deck, false, true, [deckV t a]⟩) ∧ ∃ f, good7 f k ∧ σ.ob 1 = some ⟨1, 14, 29, false, true, [cl14 f]⟩) ?_ ?_
  · exact ⟨(by first | ((try simp (maxSteps := 1000000) only [go_sem, Int.reduceEq, Int.reduceLT, Int.reduceLE, Int.reduceToNat, Nat.reduceLT, Nat.reduceEqDiff, Nat.reduceAdd, Nat.reduceLeDiff, Nat.reduceSub, Nat.reduceMul, ↓reduceIte, reduceCtorEq, w_app_nl]); done) | ((try simp (maxSteps := 1000000) only [go_sem, Int.reduceEq, Int.reduceLT, Int.reduceLE, Int.reduceToNat, Nat.reduceLT, Nat.reduceEqDiff, Nat.reduceAdd, Nat.reduceLeDiff, Nat.reduceSub, Nat.reduceMul, ↓reduceIte, reduceCtorEq, w_app_nl]); rfl) | ((try simp (maxSteps := 1000000) (disch := omega) only [go_sem, Int.reduceEq, Int.reduceLT, Int.reduceLE, Int.reduceToNat, Nat.reduceLT, Nat.reduceEqDiff, Nat.reduceAdd, Nat.reduceLeDiff, Nat.reduceSub, Nat.reduceMul, ↓reduceIte, reduceCtorEq, w_app_nl, wrap_id, w_ite_ne, w_ite_lt]); rfl) | (simp (maxSteps := 1000000) (disch := omega) only [go_sem, Int.reduceEq, Int.reduceLT, Int.reduceLE, Int.reduceToNat, Nat.reduceLT, Nat.reduceEqDiff, Nat.reduceAdd, Nat.reduceLeDiff, Nat.reduceSub, Nat.reduceMul, ↓reduceIte, reduceCtorEq, w_app_nl, wrap_id, w_ite_ne, w_ite_lt]; done)), ⟨0, by try simp (maxSteps := 500000) (disch := omega) only [go_sem, Int.reduceEq, Int.reduceLT, Int.reduceLE, Int.reduceToNat, Nat.reduceLT, Nat.reduceEqDiff, Nat.reduceAdd, Nat.reduceLeDiff, Nat.reduceSub, Nat.reduceMul, ↓reduceIte, reduceCtorEq, wrap_id, w_ite_ne, w_ite_lt, Nat.sub_zero, Nat.sub_self]⟩, fun _ => 0, fun j hj => by omega, by try simp (maxSteps := 500000) (disch := omega) only [go_sem, Int.reduceEq, Int.reduceLT, Int.reduceLE, Int.reduceToNat, Nat.reduceLT, Nat.reduceEqDiff, Nat.reduceAdd, Nat.reduceLeDiff, Nat.reduceSub, Nat.reduceMul, ↓reduceIte, reduceCtorEq, wrap_id, w_ite_ne, w_ite_lt, Nat.sub_zero, Nat.sub_self, cl14]⟩
  rintro k fe ob c hk ⟨h28, ⟨at1, hd⟩, f, hf, hob⟩
  simp (maxSteps := 1000000) only [go_sem, Int.reduceEq, Int.reduceLT, Int.reduceLE, Int.reduceToNat, Nat.reduceLT, Nat.reduceEqDiff, Nat.reduceAdd, Nat.reduceLeDiff, Nat.reduceSub, Nat.reduceMul, ↓reduceIte, reduceCtorEq, w_app_nl] at h28 hd hob
  try simp (maxSteps := 500000) (disch := omega) only [go_sem, Int.reduceEq, Int.reduceLT, Int.reduceLE, Int.reduceToNat, Nat.reduceLT, Nat.reduceEqDiff, Nat.reduceAdd, Nat.reduceLeDiff, Nat.reduceSub, Nat.reduceMul, ↓reduceIte, reduceCtorEq, wrap_id, w_ite_ne, w_ite_lt, Nat.sub_zero, Nat.sub_self, h28]
  refine cond_d (fun hlt7 => ?_) (fun hge => ?_)
  · have hk7 : k < 7 := by omega
    try simp (maxSteps := 500000) (disch := omega) only [go_sem, Int.reduceEq, Int.reduceLT, Int.reduceLE, Int.reduceToNat, Nat.reduceLT, Nat.reduceEqDiff, Nat.reduceAdd, Nat.reduceLeDiff, Nat.reduceSub, Nat.reduceMul, ↓reduceIte, reduceCtorEq, wrap_id, w_ite_ne, w_ite_lt, Nat.sub_zero, Nat.sub_self]
    refine call_hc (ok_mk_Deck_Next _ 0 0 ty_Deck true t at1 6 hd (by omega) hlt) ?_
    have hx1 := deckR_bd t at1 6
    generalize deckR t at1 6 = dr at *
    obtain ⟨x1, at2⟩ := dr
    simp only at hx1
    try simp (maxSteps := 500000) (disch := omega) only [go_sem, Int.reduceEq, Int.reduceLT, Int.reduceLE, Int.reduceToNat, Nat.reduceLT, Nat.reduceEqDiff, Nat.reduceAdd, Nat.reduceLeDiff, Nat.reduceSub, Nat.reduceMul, ↓reduceIte, reduceCtorEq, wrap_id, w_ite_ne, w_ite_lt, Nat.sub_zero, Nat.sub_self]
    refine call_hc (ok_mk_Deck_Next _ 0 0 ty_Deck true t at2 3 (by try simp (maxSteps := 500000) (disch := omega) only [go_sem, Int.reduceEq, Int.reduceLT, Int.reduceLE, Int.reduceToNat, Nat.reduceLT, Nat.reduceEqDiff, Nat.reduceAdd, Nat.reduceLeDiff, Nat.reduceSub, Nat.reduceMul, ↓reduceIte, reduceCtorEq, wrap_id, w_ite_ne, w_ite_lt, Nat.sub_zero, Nat.sub_self]) (by omega) hlt) ?_
    have hx2 := deckR_bd t at2 3
    generalize deckR t at2 3 = dr at *
    obtain ⟨x2, at3⟩ := dr
    simp only at hx2
    try simp (maxSteps := 500000) (disch := omega) only [go_sem, Int.reduceEq, Int.reduceLT, Int.reduceLE, Int.reduceToNat, Nat.reduceLT, Nat.reduceEqDiff, Nat.reduceAdd, Nat.reduceLeDiff, Nat.reduceSub, Nat.reduceMul, ↓reduceIte, reduceCtorEq, wrap_id, w_ite_ne, w_ite_lt, Nat.sub_zero, Nat.sub_self, hob, h28]
    refine ⟨by omega, by omega, ?_⟩
    refine ⟨by omega, ?_⟩
    refine up_next hk7 ?_
    refine ⟨(by first | ((try simp (maxSteps := 1000000) only [go_sem, Int.reduceEq, Int.reduceLT, Int.reduceLE, Int.reduceToNat, Nat.reduceLT, Nat.reduceEqDiff, Nat.reduceAdd, Nat.reduceLeDiff, Nat.reduceSub, Nat.reduceMul, ↓reduceIte, reduceCtorEq, w_app_nl]); done) | ((try simp (maxSteps := 1000000) only [go_sem, Int.reduceEq, Int.reduceLT, Int.reduceLE, Int.reduceToNat, Nat.reduceLT, Nat.reduceEqDiff, Nat.reduceAdd, Nat.reduceLeDiff, Nat.reduceSub, Nat.reduceMul, ↓reduceIte, reduceCtorEq, w_app_nl]); rfl) | ((try simp (maxSteps := 1000000) (disch := omega) only [go_sem, Int.reduceEq, Int.reduceLT, Int.reduceLE, Int.reduceToNat, Nat.reduceLT, Nat.reduceEqDiff, Nat.reduceAdd, Nat.reduceLeDiff, Nat.reduceSub, Nat.reduceMul, ↓reduceIte, reduceCtorEq, w_app_nl, wrap_id, w_ite_ne, w_ite_lt]); rfl) | (simp (maxSteps := 1000000) (disch := omega) only [go_sem, Int.reduceEq, Int.reduceLT, Int.reduceLE, Int.reduceToNat, Nat.reduceLT, Nat.reduceEqDiff, Nat.reduceAdd, Nat.reduceLeDiff, Nat.reduceSub, Nat.reduceMul, ↓reduceIte, reduceCtorEq, w_app_nl, wrap_id, w_ite_ne, w_ite_lt]; done)), ⟨at3, by try simp (maxSteps := 500000) (disch := omega) only [go_sem, Int.reduceEq, Int.reduceLT, Int.reduceLE, Int.reduceToNat, Nat.reduceLT, Nat.reduceEqDiff, Nat.reduceAdd, Nat.reduceLeDiff, Nat.reduceSub, Nat.reduceMul, ↓reduceIte, reduceCtorEq, wrap_id, w_ite_ne, w_ite_lt, Nat.sub_zero, Nat.sub_self]⟩, upd (upd f (2 * k) x1) (2 * k + 1) (x1 + x2), fun j hj => ?_, ?_⟩
    · rcases (by omega : j < k ∨ j = k) with h | rfl
      · have := hf j h
        rw [upd_ne _ _ _ _ (by omega), upd_ne _ _ _ _ (by omega), upd_ne _ _ _ _ (by omega), upd_ne _ _ _ _ (by omega)]
        exact this
      · rw [upd_ne _ _ _ _ (by omega), upd_same, upd_same]; omega
    · rcases (by omega : k = 0 ∨ k = 1 ∨ k = 2 ∨ k = 3 ∨ k = 4 ∨ k = 5 ∨ k = 6) with rfl | rfl | rfl | rfl | rfl | rfl | rfl <;> simp [St.trunc, cl14, upd, setc, AV.cells]
  · obtain rfl : k = 7 := by omega
    have hok := hf.ok
    have hT := ok_ledger_Tighten (ac7 f) hok.l
    try simp (maxSteps := 500000) (disch := omega) only [go_sem, Int.reduceEq, Int.reduceLT, Int.reduceLE, Int.reduceToNat, Nat.reduceLT, Nat.reduceEqDiff, Nat.reduceAdd, Nat.reduceLeDiff, Nat.reduceSub, Nat.reduceMul, ↓reduceIte, reduceCtorEq, wrap_id, w_ite_ne, w_ite_lt, Nat.sub_zero, Nat.sub_self, hob]
    have sl : ∀ {ob2 : Nat → Option AObj} {n c : Nat} (o : Nat) (L : List Bd), ob2 1 = some ⟨1, 14, 29, false, true, [cl14 f]⟩ → o + L.length * 2 ≤ 14 → flatL (bds L) = ((cl14 f).cells.drop o).take (L.length * 2) → Pub ⟨ob2, n, c⟩ (.sla 1 1 14 0 o 2 L.length) (.list 2 (bds L)) :=
      fun o L h1 h2 h3 => .sla h1 rfl rfl rfl h2 (bds_length L) h3 (bds_ok L) (bds_pur L)
    refine call_ro (fun i => decide (i ≠ 1)) hT (.cons (Pub.ag (.cons (.pure rfl) (.cons (sl 0 (ac7 f).st ?_ (by simp [ac7]) (by simp [ac7, cl14, bds, bdv, flatL, AV.cells])) (.cons (sl 6 (ac7 f).ins ?_ (by simp [ac7]) (by simp [ac7, cl14, bds, bdv, flatL, AV.cells])) (.cons (sl 10 (ac7 f).outs ?_ (by simp [ac7]) (by simp [ac7, cl14, bds, bdv, flatL, AV.cells])) .nil))))) .nil) (by simp [go_sem, acv, bds_pur]) ?_
    · simp [upd, hob]
    · simp [upd, hob]
    · simp [upd, hob]
    rcases hTS : tightS (ac7 f) with ⟨T, er⟩
    have g0 := hf 0 (by omega)
    have g1 := hf 1 (by omega)
    have g2 := hf 2 (by omega)
    have g3 := hf 3 (by omega)
    have g4 := hf 4 (by omega)
    have g5 := hf 5 (by omega)
    have g6 := hf 6 (by omega)
    simp only [Nat.reduceMul, Nat.reduceAdd] at g0 g1 g2 g3 g4 g5 g6
    have hr1 : ∀ i, i < 14 → (cl14 f).cells.getD i .junk = .int .i64 (f i) := fun i hi => by
      rcases (by omega : i = 0 ∨ i = 1 ∨ i = 2 ∨ i = 3 ∨ i = 4 ∨ i = 5 ∨ i = 6 ∨ i = 7 ∨ i = 8 ∨ i = 9 ∨ i = 10 ∨ i = 11 ∨ i = 12 ∨ i = 13) with rfl | rfl | rfl | rfl | rfl | rfl | rfl | rfl | rfl | rfl | rfl | rfl | rfl | rfl <;> rfl
    try simp (maxSteps := 500000) (disch := omega) only [go_sem, Int.reduceEq, Int.reduceLT, Int.reduceLE, Int.reduceToNat, Nat.reduceLT, Nat.reduceEqDiff, Nat.reduceAdd, Nat.reduceLeDiff, Nat.reduceSub, Nat.reduceMul, ↓reduceIte, reduceCtorEq, wrap_id, w_ite_ne, w_ite_lt, Nat.sub_zero, Nat.sub_self, acv, hob, Option.map_some, ne_eq, decide_not, hr1]
    obtain ⟨N1, hN1⟩ : ∃ N : Nat, (N : Int) = f 1 + 1 - f 0 := ⟨(f 1 + 1 - f 0).toNat, by omega⟩
    obtain ⟨N2, hN2⟩ : ∃ N : Nat, (N : Int) = f 7 + 1 - f 6 := ⟨(f 7 + 1 - f 6).toNat, by omega⟩
    obtain ⟨N3, hN3⟩ : ∃ N : Nat, (N : Int) = f 11 + 1 - f 10 := ⟨(f 11 + 1 - f 10).toNat, by omega⟩
    obtain ⟨N4, hN4⟩ : ∃ N : Nat, (N : Int) = f 9 + 1 - f 8 := ⟨(f 9 + 1 - f 8).toNat, by omega⟩
    obtain ⟨N5, hN5⟩ : ∃ N : Nat, (N : Int) = f 13 + 1 - f 12 := ⟨(f 13 + 1 - f 12).toNat, by omega⟩
    refine awp_upG [11, 12, 13, 14, 15, 16, 17, 18, 19, 20, 54, 55, 56, 57, 58, 59, 60, 61, 62, 63, 64, 65, 66, 67, 68, 69, 70, 71, 72, 73, 74, 75, 76, 77, 78, 79, 80, 81, 82, 83, 84, 85, 86, 87, 88, 89, 90, 91, 92, 93, 94, 95, 96, 97, 98, 99, 100, 101, 102, 103, 104, 105, 106, 107, 108, 109, 110, 111, 112, 113, 114, 115, 116, 117, 118, 119, 120, 121, 122, 123, 124, 125, 126, 127, 128, 129, 130, 131, 132, 133, 134, 135, 136, 137, 138, 139, 140, 141, 142, 143, 144, 145, 146, 147, 148, 149, 150, 151, 152, 153, 154, 155, 156, 157, 158, 159, 160, 161, 162, 163, 164, 165, 166, 167, 168, 169, 170, 171, 172, 173, 174, 175] (by kernel_rfl) N1 (fun r e σ => e 12 = .int .i64 (f 0 + (r : Int)) ∧ LA f T (c + 1) (c + 1 + 1) σ (e 11) (fun u => u.1 < f 0 + (r : Int))) ?_ ?_
    · refine ⟨?_, ?_, ?_, false, fun _ => 0, ?_, ?_, Hull.start fun u hu hv => ?_⟩
      · rw [show f 0 + ((0 : Nat) : Int) = f 0 by omega]
        try simp (maxSteps := 500000) (disch := omega) only [go_sem, Int.reduceEq, Int.reduceLT, Int.reduceLE, Int.reduceToNat, Nat.reduceLT, Nat.reduceEqDiff, Nat.reduceAdd, Nat.reduceLeDiff, Nat.reduceSub, Nat.reduceMul, ↓reduceIte, reduceCtorEq, wrap_id, w_ite_ne, w_ite_lt, Nat.sub_zero, Nat.sub_self]
      · simp [upd, hob]
      · simp [upd]
      · try simp (maxSteps := 500000) (disch := omega) only [go_sem, Int.reduceEq, Int.reduceLT, Int.reduceLE, Int.reduceToNat, Nat.reduceLT, Nat.reduceEqDiff, Nat.reduceAdd, Nat.reduceLeDiff, Nat.reduceSub, Nat.reduceMul, ↓reduceIte, reduceCtorEq, wrap_id, w_ite_ne, w_ite_lt, Nat.sub_zero, Nat.sub_self]
      · simp [upd, cl14]
      · have := hv.b.1
        omega
    rintro r1 fe1 ob1 m1 c1 hrk1 hm1 ⟨h12, hLA1⟩
    simp (maxSteps := 1000000) only [go_sem, Int.reduceEq, Int.reduceLT, Int.reduceLE, Int.reduceToNat, Nat.reduceLT, Nat.reduceEqDiff, Nat.reduceAdd, Nat.reduceLeDiff, Nat.reduceSub, Nat.reduceMul, ↓reduceIte, reduceCtorEq, w_app_nl] at h12 hLA1 hm1
    have hb1 := hLA1.1
    simp only at hb1
    obtain ⟨s, hs1⟩ : ∃ x : Int, x = f 0 + (r1 : Int) := ⟨_, rfl⟩
    rw [← hs1] at h12 hLA1
    try simp (maxSteps := 500000) (disch := omega) only [go_sem, Int.reduceEq, Int.reduceLT, Int.reduceLE, Int.reduceToNat, Nat.reduceLT, Nat.reduceEqDiff, Nat.reduceAdd, Nat.reduceLeDiff, Nat.reduceSub, Nat.reduceMul, ↓reduceIte, reduceCtorEq, wrap_id, w_ite_ne, w_ite_lt, Nat.sub_zero, Nat.sub_self, h12, hb1, hr1]
    refine cond_d (fun hle1 => ?_) (fun hgt1 => ?_)
    rotate_left
    · try simp (maxSteps := 500000) (disch := omega) only [go_sem, Int.reduceEq, Int.reduceLT, Int.reduceLE, Int.reduceToNat, Nat.reduceLT, Nat.reduceEqDiff, Nat.reduceAdd, Nat.reduceLeDiff, Nat.reduceSub, Nat.reduceMul, ↓reduceIte, reduceCtorEq, wrap_id, w_ite_ne, w_ite_lt, Nat.sub_zero, Nat.sub_self]
      have hEnd := hLA1.congr (R' := fun _ => True) fun u hu => by
        have := hu.b
        simp only [true_iff]
        omega
      obtain ⟨e1, e3, found, g, e11, e4, hH⟩ := hEnd
      simp only at e1 e3 e4
      cases found
      · have hno := all_no hf fun u => hH.no rfl u trivial
        rw [hno] at hTS
        obtain ⟨rfl, rfl⟩ := Prod.mk.inj hTS
        try simp (maxSteps := 500000) (disch := omega) only [go_sem, Int.reduceEq, Int.reduceLT, Int.reduceLE, Int.reduceToNat, Nat.reduceLT, Nat.reduceEqDiff, Nat.reduceAdd, Nat.reduceLeDiff, Nat.reduceSub, Nat.reduceMul, ↓reduceIte, reduceCtorEq, wrap_id, w_ite_ne, w_ite_lt, Nat.sub_zero, Nat.sub_self, e11]
        exact Pub.of_eq (by simp) rfl
      · obtain ⟨y1, y2, y3, y4⟩ := all_yes hf hH
        rw [y1] at hTS
        obtain ⟨rfl, rfl⟩ := Prod.mk.inj hTS
        have sl2 : ∀ (o : Nat) (L : List Bd), o + L.length * 2 ≤ 14 → flatL (bds L) = ((cl14 g).cells.drop o).take (L.length * 2) → Pub ⟨ob1, m1, c1⟩ (.sla 4 (c + 1 + 1) 14 0 o 2 L.length) (.list 2 (bds L)) :=
          fun o L h2 h3 => .sla e4 rfl rfl rfl h2 (bds_length L) h3 (bds_ok L) (bds_pur L)
        try simp (maxSteps := 500000) (disch := omega) only [go_sem, Int.reduceEq, Int.reduceLT, Int.reduceLE, Int.reduceToNat, Nat.reduceLT, Nat.reduceEqDiff, Nat.reduceAdd, Nat.reduceLeDiff, Nat.reduceSub, Nat.reduceMul, ↓reduceIte, reduceCtorEq, wrap_id, w_ite_ne, w_ite_lt, Nat.sub_zero, Nat.sub_self, e11, e3, e4]
        rw [y2]
        refine call_lent (ok_ref30_SameBounds [⟨g 0, g 1⟩, ⟨g 2, g 3⟩, ⟨g 4, g 5⟩] [⟨g 0, g 1⟩, ⟨g 2, g 3⟩, ⟨g 4, g 5⟩] (by simp)) (.cons (.pure (by simp [go_sem, bds_pur])) (.cons (sl2 0 [⟨g 0, g 1⟩, ⟨g 2, g 3⟩, ⟨g 4, g 5⟩] (by simp) (by simp [cl14, bds, bdv, flatL, AV.cells])) .nil)) rfl ?_
        try simp (maxSteps := 500000) (disch := omega) only [go_sem, Int.reduceEq, Int.reduceLT, Int.reduceLE, Int.reduceToNat, Nat.reduceLT, Nat.reduceEqDiff, Nat.reduceAdd, Nat.reduceLeDiff, Nat.reduceSub, Nat.reduceMul, ↓reduceIte, reduceCtorEq, wrap_id, w_ite_ne, w_ite_lt, Nat.sub_zero, Nat.sub_self, e3, e4, decide_true]
        rw [y3]
        refine call_lent (ok_ref30_SameBounds [⟨g 6, g 7⟩, ⟨g 8, g 9⟩] [⟨g 6, g 7⟩, ⟨g 8, g 9⟩] (by simp)) (.cons (.pure (by simp [go_sem, bds_pur])) (.cons (sl2 6 [⟨g 6, g 7⟩, ⟨g 8, g 9⟩] (by simp) (by simp [cl14, bds, bdv, flatL, AV.cells])) .nil)) rfl ?_
        try simp (maxSteps := 500000) (disch := omega) only [go_sem, Int.reduceEq, Int.reduceLT, Int.reduceLE, Int.reduceToNat, Nat.reduceLT, Nat.reduceEqDiff, Nat.reduceAdd, Nat.reduceLeDiff, Nat.reduceSub, Nat.reduceMul, ↓reduceIte, reduceCtorEq, wrap_id, w_ite_ne, w_ite_lt, Nat.sub_zero, Nat.sub_self, e3, e4, decide_true]
        rw [y4]
        refine call_lent (ok_ref30_SameBounds [⟨g 10, g 11⟩, ⟨g 12, g 13⟩] [⟨g 10, g 11⟩, ⟨g 12, g 13⟩] (by simp)) (.cons (.pure (by simp [go_sem, bds_pur])) (.cons (sl2 10 [⟨g 10, g 11⟩, ⟨g 12, g 13⟩] (by simp) (by simp [cl14, bds, bdv, flatL, AV.cells])) .nil)) rfl ?_
        try simp (maxSteps := 500000) (disch := omega) only [go_sem, Int.reduceEq, Int.reduceLT, Int.reduceLE, Int.reduceToNat, Nat.reduceLT, Nat.reduceEqDiff, Nat.reduceAdd, Nat.reduceLeDiff, Nat.reduceSub, Nat.reduceMul, ↓reduceIte, reduceCtorEq, wrap_id, w_ite_ne, w_ite_lt, Nat.sub_zero, Nat.sub_self, e3, e4, decide_true]
        exact Pub.of_eq (by simp) rfl
    have q1 : r1 < N1 := by omega
    try simp (maxSteps := 500000) (disch := omega) only [go_sem, Int.reduceEq, Int.reduceLT, Int.reduceLE, Int.reduceToNat, Nat.reduceLT, Nat.reduceEqDiff, Nat.reduceAdd, Nat.reduceLeDiff, Nat.reduceSub, Nat.reduceMul, ↓reduceIte, reduceCtorEq, wrap_id, w_ite_ne, w_ite_lt, Nat.sub_zero, Nat.sub_self, h12, hb1, hr1]
    refine awp_upG [11, 13, 14, 15, 16, 17, 18, 19, 20, 64, 65, 66, 67, 68, 69, 70, 71, 72, 73, 74, 75, 76, 77, 78, 79, 80, 81, 82, 83, 84, 85, 86, 87, 88, 89, 90, 91, 92, 93, 94, 95, 96, 97, 98, 99, 100, 101, 102, 103, 104, 105, 106, 107, 108, 109, 110, 111, 112, 113, 114, 115, 116, 117, 118, 119, 120, 121, 122, 123, 124, 125, 126, 127, 128, 129, 130, 131, 132, 133, 134, 135, 136, 137, 138, 139, 140, 141, 142, 143, 144, 145, 146, 147, 148, 149, 150, 151, 152, 153, 154, 155, 156, 157, 158, 159, 160, 161, 162, 163, 164, 165, 166, 167, 168, 169, 170, 171, 172, 173, 174, 175] (by kernel_rfl) N2 (fun r e σ => e 13 = .int .i64 (f 6 + (r : Int)) ∧ LA f T (c + 1) (c + 1 + 1) σ (e 11) (fun u => u.1 < s ∨ u.1 = s ∧ (u.2.1 < f 6 + (r : Int)))) ?_ ?_
    · refine ⟨?_, ?_⟩
      · rw [show f 6 + ((0 : Nat) : Int) = f 6 by omega]
        try simp (maxSteps := 500000) (disch := omega) only [go_sem, Int.reduceEq, Int.reduceLT, Int.reduceLE, Int.reduceToNat, Nat.reduceLT, Nat.reduceEqDiff, Nat.reduceAdd, Nat.reduceLeDiff, Nat.reduceSub, Nat.reduceMul, ↓reduceIte, reduceCtorEq, wrap_id, w_ite_ne, w_ite_lt, Nat.sub_zero, Nat.sub_self]
      · try simp (maxSteps := 500000) (disch := omega) only [go_sem, Int.reduceEq, Int.reduceLT, Int.reduceLE, Int.reduceToNat, Nat.reduceLT, Nat.reduceEqDiff, Nat.reduceAdd, Nat.reduceLeDiff, Nat.reduceSub, Nat.reduceMul, ↓reduceIte, reduceCtorEq, wrap_id, w_ite_ne, w_ite_lt, Nat.sub_zero, Nat.sub_self]
        refine hLA1.congr fun u hu => ?_
        have := hu.b
        omega
    rintro r2 fe2 ob2 m2 c2 hrk2 hm2 ⟨h13, hLA2⟩
    simp (maxSteps := 1000000) only [go_sem, Int.reduceEq, Int.reduceLT, Int.reduceLE, Int.reduceToNat, Nat.reduceLT, Nat.reduceEqDiff, Nat.reduceAdd, Nat.reduceLeDiff, Nat.reduceSub, Nat.reduceMul, ↓reduceIte, reduceCtorEq, w_app_nl] at h13 hLA2 hm2
    have hb2 := hLA2.1
    simp only at hb2
    obtain ⟨i, hs2⟩ : ∃ x : Int, x = f 6 + (r2 : Int) := ⟨_, rfl⟩
    rw [← hs2] at h13 hLA2
    try simp (maxSteps := 500000) (disch := omega) only [go_sem, Int.reduceEq, Int.reduceLT, Int.reduceLE, Int.reduceToNat, Nat.reduceLT, Nat.reduceEqDiff, Nat.reduceAdd, Nat.reduceLeDiff, Nat.reduceSub, Nat.reduceMul, ↓reduceIte, reduceCtorEq, wrap_id, w_ite_ne, w_ite_lt, Nat.sub_zero, Nat.sub_self, h13, hb2, hr1]
    refine cond_d (fun hle2 => ?_) (fun hgt2 => ?_)
    rotate_left
    · try simp (maxSteps := 500000) (disch := omega) only [go_sem, Int.reduceEq, Int.reduceLT, Int.reduceLE, Int.reduceToNat, Nat.reduceLT, Nat.reduceEqDiff, Nat.reduceAdd, Nat.reduceLeDiff, Nat.reduceSub, Nat.reduceMul, ↓reduceIte, reduceCtorEq, wrap_id, w_ite_ne, w_ite_lt, Nat.sub_zero, Nat.sub_self, h12]
      refine up_nextG m2 q1 (by omega) ⟨?_, ?_⟩
      · rw [show f 0 + ((r1 + 1 : Nat) : Int) = s + 1 by omega]
        try simp (maxSteps := 500000) (disch := omega) only [go_sem, Int.reduceEq, Int.reduceLT, Int.reduceLE, Int.reduceToNat, Nat.reduceLT, Nat.reduceEqDiff, Nat.reduceAdd, Nat.reduceLeDiff, Nat.reduceSub, Nat.reduceMul, ↓reduceIte, reduceCtorEq, wrap_id, w_ite_ne, w_ite_lt, Nat.sub_zero, Nat.sub_self]
      · try simp (maxSteps := 500000) (disch := omega) only [go_sem, Int.reduceEq, Int.reduceLT, Int.reduceLE, Int.reduceToNat, Nat.reduceLT, Nat.reduceEqDiff, Nat.reduceAdd, Nat.reduceLeDiff, Nat.reduceSub, Nat.reduceMul, ↓reduceIte, reduceCtorEq, wrap_id, w_ite_ne, w_ite_lt, Nat.sub_zero, Nat.sub_self]
        refine (hLA2.congr fun u hu => ?_).trunc (by omega)
        have := hu.b
        omega
    have q2 : r2 < N2 := by omega
    try simp (maxSteps := 500000) (disch := omega) only [go_sem, Int.reduceEq, Int.reduceLT, Int.reduceLE, Int.reduceToNat, Nat.reduceLT, Nat.reduceEqDiff, Nat.reduceAdd, Nat.reduceLeDiff, Nat.reduceSub, Nat.reduceMul, ↓reduceIte, reduceCtorEq, wrap_id, w_ite_ne, w_ite_lt, Nat.sub_zero, Nat.sub_self, h12, h13, hb2, hr1]
    refine awp_upG [11, 14, 15, 16, 17, 18, 19, 20, 74, 75, 76, 77, 78, 79, 80, 81, 82, 83, 84, 85, 86, 87, 88, 89, 90, 91, 92, 93, 94, 95, 96, 97, 98, 99, 100, 101, 102, 103, 104, 105, 106, 107, 108, 109, 110, 111, 112, 113, 114, 115, 116, 117, 118, 119, 120, 121, 122, 123, 124, 125, 126, 127, 128, 129, 130, 131, 132, 133, 134, 135, 136, 137, 138, 139, 140, 141, 142, 143, 144, 145, 146, 147, 148, 149, 150, 151, 152, 153, 154, 155, 156, 157, 158, 159, 160, 161, 162, 163, 164, 165, 166, 167, 168, 169, 170, 171, 172, 173, 174, 175] (by kernel_rfl) N3 (fun r e σ => e 14 = .int .i64 (f 10 + (r : Int)) ∧ LA f T (c + 1) (c + 1 + 1) σ (e 11) (fun u => u.1 < s ∨ u.1 = s ∧ (u.2.1 < i ∨ u.2.1 = i ∧ (u.2.2.1 < f 10 + (r : Int))))) ?_ ?_
    · refine ⟨?_, ?_⟩
      · rw [show f 10 + ((0 : Nat) : Int) = f 10 by omega]
        try simp (maxSteps := 500000) (disch := omega) only [go_sem, Int.reduceEq, Int.reduceLT, Int.reduceLE, Int.reduceToNat, Nat.reduceLT, Nat.reduceEqDiff, Nat.reduceAdd, Nat.reduceLeDiff, Nat.reduceSub, Nat.reduceMul, ↓reduceIte, reduceCtorEq, wrap_id, w_ite_ne, w_ite_lt, Nat.sub_zero, Nat.sub_self]
      · try simp (maxSteps := 500000) (disch := omega) only [go_sem, Int.reduceEq, Int.reduceLT, Int.reduceLE, Int.reduceToNat, Nat.reduceLT, Nat.reduceEqDiff, Nat.reduceAdd, Nat.reduceLeDiff, Nat.reduceSub, Nat.reduceMul, ↓reduceIte, reduceCtorEq, wrap_id, w_ite_ne, w_ite_lt, Nat.sub_zero, Nat.sub_self]
        refine hLA2.congr fun u hu => ?_
        have := hu.b
        omega
    rintro r3 fe3 ob3 m3 c3 hrk3 hm3 ⟨h14, hLA3⟩
    simp (maxSteps := 1000000) only [go_sem, Int.reduceEq, Int.reduceLT, Int.reduceLE, Int.reduceToNat, Nat.reduceLT, Nat.reduceEqDiff, Nat.reduceAdd, Nat.reduceLeDiff, Nat.reduceSub, Nat.reduceMul, ↓reduceIte, reduceCtorEq, w_app_nl] at h14 hLA3 hm3
    have hb3 := hLA3.1
    simp only at hb3
    obtain ⟨o, hs3⟩ : ∃ x : Int, x = f 10 + (r3 : Int) := ⟨_, rfl⟩
    rw [← hs3] at h14 hLA3
    try simp (maxSteps := 500000) (disch := omega) only [go_sem, Int.reduceEq, Int.reduceLT, Int.reduceLE, Int.reduceToNat, Nat.reduceLT, Nat.reduceEqDiff, Nat.reduceAdd, Nat.reduceLeDiff, Nat.reduceSub, Nat.reduceMul, ↓reduceIte, reduceCtorEq, wrap_id, w_ite_ne, w_ite_lt, Nat.sub_zero, Nat.sub_self, h14, hb3, hr1]
    refine cond_d (fun hle3 => ?_) (fun hgt3 => ?_)
    rotate_left
    · try simp (maxSteps := 500000) (disch := omega) only [go_sem, Int.reduceEq, Int.reduceLT, Int.reduceLE, Int.reduceToNat, Nat.reduceLT, Nat.reduceEqDiff, Nat.reduceAdd, Nat.reduceLeDiff, Nat.reduceSub, Nat.reduceMul, ↓reduceIte, reduceCtorEq, wrap_id, w_ite_ne, w_ite_lt, Nat.sub_zero, Nat.sub_self, h13]
      refine up_nextG m3 q2 (by omega) ⟨?_, ?_⟩
      · rw [show f 6 + ((r2 + 1 : Nat) : Int) = i + 1 by omega]
        try simp (maxSteps := 500000) (disch := omega) only [go_sem, Int.reduceEq, Int.reduceLT, Int.reduceLE, Int.reduceToNat, Nat.reduceLT, Nat.reduceEqDiff, Nat.reduceAdd, Nat.reduceLeDiff, Nat.reduceSub, Nat.reduceMul, ↓reduceIte, reduceCtorEq, wrap_id, w_ite_ne, w_ite_lt, Nat.sub_zero, Nat.sub_self]
      · try simp (maxSteps := 500000) (disch := omega) only [go_sem, Int.reduceEq, Int.reduceLT, Int.reduceLE, Int.reduceToNat, Nat.reduceLT, Nat.reduceEqDiff, Nat.reduceAdd, Nat.reduceLeDiff, Nat.reduceSub, Nat.reduceMul, ↓reduceIte, reduceCtorEq, wrap_id, w_ite_ne, w_ite_lt, Nat.sub_zero, Nat.sub_self]
        refine (hLA3.congr fun u hu => ?_).trunc (by omega)
        have := hu.b
        omega
    have q3 : r3 < N3 := by omega
    try simp (maxSteps := 500000) (disch := omega) only [go_sem, Int.reduceEq, Int.reduceLT, Int.reduceLE, Int.reduceToNat, Nat.reduceLT, Nat.reduceEqDiff, Nat.reduceAdd, Nat.reduceLeDiff, Nat.reduceSub, Nat.reduceMul, ↓reduceIte, reduceCtorEq, wrap_id, w_ite_ne, w_ite_lt, Nat.sub_zero, Nat.sub_self, h12, h13, h14, hb3, hr1]
    refine awp_upG [11, 15, 16, 17, 18, 19, 20, 84, 85, 86, 87, 88, 89, 90, 91, 92, 93, 94, 95, 96, 97, 98, 99, 100, 101, 102, 103, 104, 105, 106, 107, 108, 109, 110, 111, 112, 113, 114, 115, 116, 117, 118, 119, 120, 121, 122, 123, 124, 125, 126, 127, 128, 129, 130, 131, 132, 133, 134, 135, 136, 137, 138, 139, 140, 141, 142, 143, 144, 145, 146, 147, 148, 149, 150, 151, 152, 153, 154, 155, 156, 157, 158, 159, 160, 161, 162, 163, 164, 165, 166, 167, 168, 169, 170, 171, 172, 173, 174, 175] (by kernel_rfl) N4 (fun r e σ => e 15 = .int .i64 (f 8 + (r : Int)) ∧ LA f T (c + 1) (c + 1 + 1) σ (e 11) (fun u => u.1 < s ∨ u.1 = s ∧ (u.2.1 < i ∨ u.2.1 = i ∧ (u.2.2.1 < o ∨ u.2.2.1 = o ∧ (u.2.2.2.1 < f 8 + (r : Int)))))) ?_ ?_
    · refine ⟨?_, ?_⟩
      · rw [show f 8 + ((0 : Nat) : Int) = f 8 by omega]
        try simp (maxSteps := 500000) (disch := omega) only [go_sem, Int.reduceEq, Int.reduceLT, Int.reduceLE, Int.reduceToNat, Nat.reduceLT, Nat.reduceEqDiff, Nat.reduceAdd, Nat.reduceLeDiff, Nat.reduceSub, Nat.reduceMul, ↓reduceIte, reduceCtorEq, wrap_id, w_ite_ne, w_ite_lt, Nat.sub_zero, Nat.sub_self]
      · try simp (maxSteps := 500000) (disch := omega) only [go_sem, Int.reduceEq, Int.reduceLT, Int.reduceLE, Int.reduceToNat, Nat.reduceLT, Nat.reduceEqDiff, Nat.reduceAdd, Nat.reduceLeDiff, Nat.reduceSub, Nat.reduceMul, ↓reduceIte, reduceCtorEq, wrap_id, w_ite_ne, w_ite_lt, Nat.sub_zero, Nat.sub_self]
        refine hLA3.congr fun u hu => ?_
        have := hu.b
        omega
    rintro r4 fe4 ob4 m4 c4 hrk4 hm4 ⟨h15, hLA4⟩
    simp (maxSteps := 1000000) only [go_sem, Int.reduceEq, Int.reduceLT, Int.reduceLE, Int.reduceToNat, Nat.reduceLT, Nat.reduceEqDiff, Nat.reduceAdd, Nat.reduceLeDiff, Nat.reduceSub, Nat.reduceMul, ↓reduceIte, reduceCtorEq, w_app_nl] at h15 hLA4 hm4
    have hb4 := hLA4.1
    simp only at hb4
    obtain ⟨p, hs4⟩ : ∃ x : Int, x = f 8 + (r4 : Int) := ⟨_, rfl⟩
    rw [← hs4] at h15 hLA4
    try simp (maxSteps := 500000) (disch := omega) only [go_sem, Int.reduceEq, Int.reduceLT, Int.reduceLE, Int.reduceToNat, Nat.reduceLT, Nat.reduceEqDiff, Nat.reduceAdd, Nat.reduceLeDiff, Nat.reduceSub, Nat.reduceMul, ↓reduceIte, reduceCtorEq, wrap_id, w_ite_ne, w_ite_lt, Nat.sub_zero, Nat.sub_self, h15, hb4, hr1]
    refine cond_d (fun hle4 => ?_) (fun hgt4 => ?_)
    rotate_left
    · try simp (maxSteps := 500000) (disch := omega) only [go_sem, Int.reduceEq, Int.reduceLT, Int.reduceLE, Int.reduceToNat, Nat.reduceLT, Nat.reduceEqDiff, Nat.reduceAdd, Nat.reduceLeDiff, Nat.reduceSub, Nat.reduceMul, ↓reduceIte, reduceCtorEq, wrap_id, w_ite_ne, w_ite_lt, Nat.sub_zero, Nat.sub_self, h14]
      refine up_nextG m4 q3 (by omega) ⟨?_, ?_⟩
      · rw [show f 10 + ((r3 + 1 : Nat) : Int) = o + 1 by omega]
        try simp (maxSteps := 500000) (disch := omega) only [go_sem, Int.reduceEq, Int.reduceLT, Int.reduceLE, Int.reduceToNat, Nat.reduceLT, Nat.reduceEqDiff, Nat.reduceAdd, Nat.reduceLeDiff, Nat.reduceSub, Nat.reduceMul, ↓reduceIte, reduceCtorEq, wrap_id, w_ite_ne, w_ite_lt, Nat.sub_zero, Nat.sub_self]
      · try simp (maxSteps := 500000) (disch := omega) only [go_sem, Int.reduceEq, Int.reduceLT, Int.reduceLE, Int.reduceToNat, Nat.reduceLT, Nat.reduceEqDiff, Nat.reduceAdd, Nat.reduceLeDiff, Nat.reduceSub, Nat.reduceMul, ↓reduceIte, reduceCtorEq, wrap_id, w_ite_ne, w_ite_lt, Nat.sub_zero, Nat.sub_self]
        refine (hLA4.congr fun u hu => ?_).trunc (by omega)
        have := hu.b
        omega
    have q4 : r4 < N4 := by omega
    try simp (maxSteps := 500000) (disch := omega) only [go_sem, Int.reduceEq, Int.reduceLT, Int.reduceLE, Int.reduceToNat, Nat.reduceLT, Nat.reduceEqDiff, Nat.reduceAdd, Nat.reduceLeDiff, Nat.reduceSub, Nat.reduceMul, ↓reduceIte, reduceCtorEq, wrap_id, w_ite_ne, w_ite_lt, Nat.sub_zero, Nat.sub_self, h12, h13, h14, h15, hb4, hr1]
    refine awp_upG [11, 16, 17, 18, 19, 20, 94, 95, 96, 97, 98, 99, 100, 101, 102, 103, 104, 105, 106, 107, 108, 109, 110, 111, 112, 113, 114, 115, 116, 117, 118, 119, 120, 121, 122, 123, 124, 125, 126, 127, 128, 129, 130, 131, 132, 133, 134, 135, 136, 137, 138, 139, 140, 141, 142, 143, 144, 145, 146, 147, 148, 149, 150, 151, 152, 153, 154, 155, 156, 157, 158, 159, 160, 161, 162, 163, 164, 165, 166, 167, 168, 169, 170, 171, 172, 173, 174, 175] (by kernel_rfl) N5 (fun r e σ => e 16 = .int .i64 (f 12 + (r : Int)) ∧ LA f T (c + 1) (c + 1 + 1) σ (e 11) (fun u => u.1 < s ∨ u.1 = s ∧ (u.2.1 < i ∨ u.2.1 = i ∧ (u.2.2.1 < o ∨ u.2.2.1 = o ∧ (u.2.2.2.1 < p ∨ u.2.2.2.1 = p ∧ (u.2.2.2.2 < f 12 + (r : Int))))))) ?_ ?_
    · refine ⟨?_, ?_⟩
      · rw [show f 12 + ((0 : Nat) : Int) = f 12 by omega]
        try simp (maxSteps := 500000) (disch := omega) only [go_sem, Int.reduceEq, Int.reduceLT, Int.reduceLE, Int.reduceToNat, Nat.reduceLT, Nat.reduceEqDiff, Nat.reduceAdd, Nat.reduceLeDiff, Nat.reduceSub, Nat.reduceMul, ↓reduceIte, reduceCtorEq, wrap_id, w_ite_ne, w_ite_lt, Nat.sub_zero, Nat.sub_self]
      · try simp (maxSteps := 500000) (disch := omega) only [go_sem, Int.reduceEq, Int.reduceLT, Int.reduceLE, Int.reduceToNat, Nat.reduceLT, Nat.reduceEqDiff, Nat.reduceAdd, Nat.reduceLeDiff, Nat.reduceSub, Nat.reduceMul, ↓reduceIte, reduceCtorEq, wrap_id, w_ite_ne, w_ite_lt, Nat.sub_zero, Nat.sub_self]
        refine hLA4.congr fun u hu => ?_
        have := hu.b
        omega
    rintro r5 fe5 ob5 m5 c5 hrk5 hm5 ⟨h16, hLA5⟩
    simp (maxSteps := 1000000) only [go_sem, Int.reduceEq, Int.reduceLT, Int.reduceLE, Int.reduceToNat, Nat.reduceLT, Nat.reduceEqDiff, Nat.reduceAdd, Nat.reduceLeDiff, Nat.reduceSub, Nat.reduceMul, ↓reduceIte, reduceCtorEq, w_app_nl] at h16 hLA5 hm5
    have hb5 := hLA5.1
    simp only at hb5
    obtain ⟨l, hs5⟩ : ∃ x : Int, x = f 12 + (r5 : Int) := ⟨_, rfl⟩
    rw [← hs5] at h16 hLA5
    try simp (maxSteps := 500000) (disch := omega) only [go_sem, Int.reduceEq, Int.reduceLT, Int.reduceLE, Int.reduceToNat, Nat.reduceLT, Nat.reduceEqDiff, Nat.reduceAdd, Nat.reduceLeDiff, Nat.reduceSub, Nat.reduceMul, ↓reduceIte, reduceCtorEq, wrap_id, w_ite_ne, w_ite_lt, Nat.sub_zero, Nat.sub_self, h16, hb5, hr1]
    refine cond_d (fun hle5 => ?_) (fun hgt5 => ?_)
    rotate_left
    · try simp (maxSteps := 500000) (disch := omega) only [go_sem, Int.reduceEq, Int.reduceLT, Int.reduceLE, Int.reduceToNat, Nat.reduceLT, Nat.reduceEqDiff, Nat.reduceAdd, Nat.reduceLeDiff, Nat.reduceSub, Nat.reduceMul, ↓reduceIte, reduceCtorEq, wrap_id, w_ite_ne, w_ite_lt, Nat.sub_zero, Nat.sub_self, h15]
      refine up_nextG m5 q4 (by omega) ⟨?_, ?_⟩
      · rw [show f 8 + ((r4 + 1 : Nat) : Int) = p + 1 by omega]
        try simp (maxSteps := 500000) (disch := omega) only [go_sem, Int.reduceEq, Int.reduceLT, Int.reduceLE, Int.reduceToNat, Nat.reduceLT, Nat.reduceEqDiff, Nat.reduceAdd, Nat.reduceLeDiff, Nat.reduceSub, Nat.reduceMul, ↓reduceIte, reduceCtorEq, wrap_id, w_ite_ne, w_ite_lt, Nat.sub_zero, Nat.sub_self]
      · try simp (maxSteps := 500000) (disch := omega) only [go_sem, Int.reduceEq, Int.reduceLT, Int.reduceLE, Int.reduceToNat, Nat.reduceLT, Nat.reduceEqDiff, Nat.reduceAdd, Nat.reduceLeDiff, Nat.reduceSub, Nat.reduceMul, ↓reduceIte, reduceCtorEq, wrap_id, w_ite_ne, w_ite_lt, Nat.sub_zero, Nat.sub_self]
        refine (hLA5.congr fun u hu => ?_).trunc (by omega)
        have := hu.b
        omega
    have q5 : r5 < N5 := by omega
    try simp (maxSteps := 500000) (disch := omega) only [go_sem, Int.reduceEq, Int.reduceLT, Int.reduceLE, Int.reduceToNat, Nat.reduceLT, Nat.reduceEqDiff, Nat.reduceAdd, Nat.reduceLeDiff, Nat.reduceSub, Nat.reduceMul, ↓reduceIte, reduceCtorEq, wrap_id, w_ite_ne, w_ite_lt, Nat.sub_zero, Nat.sub_self, h12, h13, h14, h15, h16, hb5, hr1]
    have bs : 0 ≤ s ∧ s ≤ 1000 := by omega
    have bi : 0 ≤ i ∧ i ≤ 1000 := by omega
    have bo : 0 ≤ o ∧ o ≤ 1000 := by omega
    have bp : 0 ≤ p ∧ p ≤ 1000 := by omega
    have bl : 0 ≤ l ∧ l ≤ 1000 := by omega
    have hR : ∀ w : U5, (w.1 < s ∨ w.1 = s ∧ (w.2.1 < i ∨ w.2.1 = i ∧ (w.2.2.1 < o ∨ w.2.2.1 = o ∧ (w.2.2.2.1 < p ∨ w.2.2.2.1 = p ∧ (w.2.2.2.2 < l + 1))))) ↔ (w.1 < s ∨ w.1 = s ∧ (w.2.1 < i ∨ w.2.1 = i ∧ (w.2.2.1 < o ∨ w.2.2.1 = o ∧ (w.2.2.2.1 < p ∨ w.2.2.2.1 = p ∧ (w.2.2.2.2 < l))))) ∨ w = (s, i, o, p, l) := fun w => by
      rw [u5_ext]; omega
    have n1 : ¬ 1 = m5 := by omega
    have n4 : ¬ 4 = m5 := by omega
    have hs6 : f 12 + ((r5 + 1 : Nat) : Int) = l + 1 := by omega
    by_cases w1 : s + i - o < f 2
    · try simp (maxSteps := 500000) (disch := omega) only [go_sem, Int.reduceEq, Int.reduceLT, Int.reduceLE, Int.reduceToNat, Nat.reduceLT, Nat.reduceEqDiff, Nat.reduceAdd, Nat.reduceLeDiff, Nat.reduceSub, Nat.reduceMul, ↓reduceIte, reduceCtorEq, wrap_id, w_ite_ne, w_ite_lt, Nat.sub_zero, Nat.sub_self, h12, h13, h14, h15, h16, n1, hb5, hr1, w1, decide_true]
      refine up_nextG (m5 + 1) q5 (by omega) ⟨?_, ?_⟩
      · rw [hs6]
        try simp (maxSteps := 500000) (disch := omega) only [go_sem, Int.reduceEq, Int.reduceLT, Int.reduceLE, Int.reduceToNat, Nat.reduceLT, Nat.reduceEqDiff, Nat.reduceAdd, Nat.reduceLeDiff, Nat.reduceSub, Nat.reduceMul, ↓reduceIte, reduceCtorEq, wrap_id, w_ite_ne, w_ite_lt, Nat.sub_zero, Nat.sub_self]
      · rw [hs6]
        try simp (maxSteps := 500000) (disch := omega) only [go_sem, Int.reduceEq, Int.reduceLT, Int.reduceLE, Int.reduceToNat, Nat.reduceLT, Nat.reduceEqDiff, Nat.reduceAdd, Nat.reduceLeDiff, Nat.reduceSub, Nat.reduceMul, ↓reduceIte, reduceCtorEq, wrap_id, w_ite_ne, w_ite_lt, Nat.sub_zero, Nat.sub_self]
        refine (hLA5.skip (fun hv => by have := hv 1 (by omega); simp only [hv7, Nat.reduceMul, Nat.reduceAdd] at this; omega) hR).mv fun j hj => ?_
        simp only
        rw [if_pos (by omega), if_neg (by omega)]
    by_cases w2 : f 3 < s + i - o
    · try simp (maxSteps := 500000) (disch := omega) only [go_sem, Int.reduceEq, Int.reduceLT, Int.reduceLE, Int.reduceToNat, Nat.reduceLT, Nat.reduceEqDiff, Nat.reduceAdd, Nat.reduceLeDiff, Nat.reduceSub, Nat.reduceMul, ↓reduceIte, reduceCtorEq, wrap_id, w_ite_ne, w_ite_lt, Nat.sub_zero, Nat.sub_self, h12, h13, h14, h15, h16, n1, hb5, hr1, w1, w2, decide_true, decide_false]
      refine up_nextG (m5 + 1) q5 (by omega) ⟨?_, ?_⟩
      · rw [hs6]
        try simp (maxSteps := 500000) (disch := omega) only [go_sem, Int.reduceEq, Int.reduceLT, Int.reduceLE, Int.reduceToNat, Nat.reduceLT, Nat.reduceEqDiff, Nat.reduceAdd, Nat.reduceLeDiff, Nat.reduceSub, Nat.reduceMul, ↓reduceIte, reduceCtorEq, wrap_id, w_ite_ne, w_ite_lt, Nat.sub_zero, Nat.sub_self]
      · rw [hs6]
        try simp (maxSteps := 500000) (disch := omega) only [go_sem, Int.reduceEq, Int.reduceLT, Int.reduceLE, Int.reduceToNat, Nat.reduceLT, Nat.reduceEqDiff, Nat.reduceAdd, Nat.reduceLeDiff, Nat.reduceSub, Nat.reduceMul, ↓reduceIte, reduceCtorEq, wrap_id, w_ite_ne, w_ite_lt, Nat.sub_zero, Nat.sub_self]
        refine (hLA5.skip (fun hv => by have := hv 1 (by omega); simp only [hv7, Nat.reduceMul, Nat.reduceAdd] at this; omega) hR).mv fun j hj => ?_
        simp only
        rw [if_pos (by omega), if_neg (by omega)]
    by_cases w3 : s + i - o + p - l < f 4
    · try simp (maxSteps := 500000) (disch := omega) only [go_sem, Int.reduceEq, Int.reduceLT, Int.reduceLE, Int.reduceToNat, Nat.reduceLT, Nat.reduceEqDiff, Nat.reduceAdd, Nat.reduceLeDiff, Nat.reduceSub, Nat.reduceMul, ↓reduceIte, reduceCtorEq, wrap_id, w_ite_ne, w_ite_lt, Nat.sub_zero, Nat.sub_self, h12, h13, h14, h15, h16, n1, hb5, hr1, w1, w2, w3, decide_true, decide_false]
      refine up_nextG (m5 + 1) q5 (by omega) ⟨?_, ?_⟩
      · rw [hs6]
        try simp (maxSteps := 500000) (disch := omega) only [go_sem, Int.reduceEq, Int.reduceLT, Int.reduceLE, Int.reduceToNat, Nat.reduceLT, Nat.reduceEqDiff, Nat.reduceAdd, Nat.reduceLeDiff, Nat.reduceSub, Nat.reduceMul, ↓reduceIte, reduceCtorEq, wrap_id, w_ite_ne, w_ite_lt, Nat.sub_zero, Nat.sub_self]
      · rw [hs6]
        try simp (maxSteps := 500000) (disch := omega) only [go_sem, Int.reduceEq, Int.reduceLT, Int.reduceLE, Int.reduceToNat, Nat.reduceLT, Nat.reduceEqDiff, Nat.reduceAdd, Nat.reduceLeDiff, Nat.reduceSub, Nat.reduceMul, ↓reduceIte, reduceCtorEq, wrap_id, w_ite_ne, w_ite_lt, Nat.sub_zero, Nat.sub_self]
        refine (hLA5.skip (fun hv => by have := hv 2 (by omega); simp only [hv7, Nat.reduceMul, Nat.reduceAdd] at this; omega) hR).mv fun j hj => ?_
        simp only
        rw [if_pos (by omega), if_neg (by omega)]
    by_cases w4 : f 5 < s + i - o + p - l
    · try simp (maxSteps := 500000) (disch := omega) only [go_sem, Int.reduceEq, Int.reduceLT, Int.reduceLE, Int.reduceToNat, Nat.reduceLT, Nat.reduceEqDiff, Nat.reduceAdd, Nat.reduceLeDiff, Nat.reduceSub, Nat.reduceMul, ↓reduceIte, reduceCtorEq, wrap_id, w_ite_ne, w_ite_lt, Nat.sub_zero, Nat.sub_self, h12, h13, h14, h15, h16, n1, hb5, hr1, w1, w2, w3, w4, decide_true, decide_false]
      refine up_nextG (m5 + 1) q5 (by omega) ⟨?_, ?_⟩
      · rw [hs6]
        try simp (maxSteps := 500000) (disch := omega) only [go_sem, Int.reduceEq, Int.reduceLT, Int.reduceLE, Int.reduceToNat, Nat.reduceLT, Nat.reduceEqDiff, Nat.reduceAdd, Nat.reduceLeDiff, Nat.reduceSub, Nat.reduceMul, ↓reduceIte, reduceCtorEq, wrap_id, w_ite_ne, w_ite_lt, Nat.sub_zero, Nat.sub_self]
      · rw [hs6]
        try simp (maxSteps := 500000) (disch := omega) only [go_sem, Int.reduceEq, Int.reduceLT, Int.reduceLE, Int.reduceToNat, Nat.reduceLT, Nat.reduceEqDiff, Nat.reduceAdd, Nat.reduceLeDiff, Nat.reduceSub, Nat.reduceMul, ↓reduceIte, reduceCtorEq, wrap_id, w_ite_ne, w_ite_lt, Nat.sub_zero, Nat.sub_self]
        refine (hLA5.skip (fun hv => by have := hv 2 (by omega); simp only [hv7, Nat.reduceMul, Nat.reduceAdd] at this; omega) hR).mv fun j hj => ?_
        simp only
        rw [if_pos (by omega), if_neg (by omega)]
    have hval : val7 f (s, i, o, p, l) := fun j hj => by
      rcases (by omega : j = 0 ∨ j = 1 ∨ j = 2 ∨ j = 3 ∨ j = 4 ∨ j = 5 ∨ j = 6) with rfl | rfl | rfl | rfl | rfl | rfl | rfl <;> simp only [hv7, Nat.reduceMul, Nat.reduceAdd] <;> omega
    obtain ⟨e1, e3, found, g, e11, e4, hH⟩ := hLA5
    simp only at e1 e3 e4
    try simp (maxSteps := 500000) (disch := omega) only [go_sem, Int.reduceEq, Int.reduceLT, Int.reduceLE, Int.reduceToNat, Nat.reduceLT, Nat.reduceEqDiff, Nat.reduceAdd, Nat.reduceLeDiff, Nat.reduceSub, Nat.reduceMul, ↓reduceIte, reduceCtorEq, wrap_id, w_ite_ne, w_ite_lt, Nat.sub_zero, Nat.sub_self, h12, h13, h14, h15, h16, n1, hb5, hr1, w1, w2, w3, w4, decide_false]
    have n3 : ¬ 3 = m5 := by omega
    have n5 : ¬ m5 = 4 := by omega
    refine awp_upG [19, 20, 149, 150, 151, 152, 153, 154, 155, 156, 157, 158, 159, 160, 161, 162, 163, 164, 165, 166, 167, 168, 169, 170, 171, 172, 173, 174, 175] (by kernel_rfl) 7 (fun k e σ => e 149 = .int .i64 k ∧ σ.ob 1 = some ⟨1, 14, 29, true, true, [cl14 f]⟩ ∧ σ.ob 3 = some ⟨c + 1, 4, 33, false, true, [.agg [.int .i64 T.fr, .list 2 (bds T.st), .list 2 (bds T.ins), .list 2 (bds T.outs)]]⟩ ∧
      σ.ob 4 = some ⟨c + 1 + 1, 14, 29, false, true, [cl14 (hul found g (s, i, o, p, l) k)]⟩) ?_ ?_
    · refine ⟨(by first | ((try simp (maxSteps := 1000000) only [go_sem, Int.reduceEq, Int.reduceLT, Int.reduceLE, Int.reduceToNat, Nat.reduceLT, Nat.reduceEqDiff, Nat.reduceAdd, Nat.reduceLeDiff, Nat.reduceSub, Nat.reduceMul, ↓reduceIte, reduceCtorEq, w_app_nl]); done) | ((try simp (maxSteps := 1000000) only [go_sem, Int.reduceEq, Int.reduceLT, Int.reduceLE, Int.reduceToNat, Nat.reduceLT, Nat.reduceEqDiff, Nat.reduceAdd, Nat.reduceLeDiff, Nat.reduceSub, Nat.reduceMul, ↓reduceIte, reduceCtorEq, w_app_nl]); rfl) | ((try simp (maxSteps := 1000000) (disch := omega) only [go_sem, Int.reduceEq, Int.reduceLT, Int.reduceLE, Int.reduceToNat, Nat.reduceLT, Nat.reduceEqDiff, Nat.reduceAdd, Nat.reduceLeDiff, Nat.reduceSub, Nat.reduceMul, ↓reduceIte, reduceCtorEq, w_app_nl, wrap_id, w_ite_ne, w_ite_lt]); rfl) | (simp (maxSteps := 1000000) (disch := omega) only [go_sem, Int.reduceEq, Int.reduceLT, Int.reduceLE, Int.reduceToNat, Nat.reduceLT, Nat.reduceEqDiff, Nat.reduceAdd, Nat.reduceLeDiff, Nat.reduceSub, Nat.reduceMul, ↓reduceIte, reduceCtorEq, w_app_nl, wrap_id, w_ite_ne, w_ite_lt]; done)), ?_, ?_, ?_⟩
      · try simp (maxSteps := 500000) (disch := omega) only [go_sem, Int.reduceEq, Int.reduceLT, Int.reduceLE, Int.reduceToNat, Nat.reduceLT, Nat.reduceEqDiff, Nat.reduceAdd, Nat.reduceLeDiff, Nat.reduceSub, Nat.reduceMul, ↓reduceIte, reduceCtorEq, wrap_id, w_ite_ne, w_ite_lt, Nat.sub_zero, Nat.sub_self, n1, e1]
      · try simp (maxSteps := 500000) (disch := omega) only [go_sem, Int.reduceEq, Int.reduceLT, Int.reduceLE, Int.reduceToNat, Nat.reduceLT, Nat.reduceEqDiff, Nat.reduceAdd, Nat.reduceLeDiff, Nat.reduceSub, Nat.reduceMul, ↓reduceIte, reduceCtorEq, wrap_id, w_ite_ne, w_ite_lt, Nat.sub_zero, Nat.sub_self, n3, e3]
      · try simp (maxSteps := 500000) (disch := omega) only [go_sem, Int.reduceEq, Int.reduceLT, Int.reduceLE, Int.reduceToNat, Nat.reduceLT, Nat.reduceEqDiff, Nat.reduceAdd, Nat.reduceLeDiff, Nat.reduceSub, Nat.reduceMul, ↓reduceIte, reduceCtorEq, wrap_id, w_ite_ne, w_ite_lt, Nat.sub_zero, Nat.sub_self, n4, e4, hul_zero]
    rintro k fe6 ob6 m6 c6 hk hm6 ⟨h149, a1, a3, a4⟩
    simp (maxSteps := 1000000) only [go_sem, Int.reduceEq, Int.reduceLT, Int.reduceLE, Int.reduceToNat, Nat.reduceLT, Nat.reduceEqDiff, Nat.reduceAdd, Nat.reduceLeDiff, Nat.reduceSub, Nat.reduceMul, ↓reduceIte, reduceCtorEq, w_app_nl] at h149 a1 a3 a4 hm6
    try simp (maxSteps := 500000) (disch := omega) only [go_sem, Int.reduceEq, Int.reduceLT, Int.reduceLE, Int.reduceToNat, Nat.reduceLT, Nat.reduceEqDiff, Nat.reduceAdd, Nat.reduceLeDiff, Nat.reduceSub, Nat.reduceMul, ↓reduceIte, reduceCtorEq, wrap_id, w_ite_ne, w_ite_lt, Nat.sub_zero, Nat.sub_self, h149]
    refine cond_d (fun hlt7 => ?_) (fun hge => ?_)
    · have hk7 : k < 7 := by omega
      rcases (by omega : k = 0 ∨ k = 1 ∨ k = 2 ∨ k = 3 ∨ k = 4 ∨ k = 5 ∨ k = 6) with rfl | rfl | rfl | rfl | rfl | rfl | rfl <;> cases found
      all_goals
        try simp (maxSteps := 500000) (disch := omega) only [go_sem, Int.reduceEq, Int.reduceLT, Int.reduceLE, Int.reduceToNat, Nat.reduceLT, Nat.reduceEqDiff, Nat.reduceAdd, Nat.reduceLeDiff, Nat.reduceSub, Nat.reduceMul, ↓reduceIte, reduceCtorEq, wrap_id, w_ite_ne, w_ite_lt, Nat.sub_zero, Nat.sub_self, h149, a4, cl14, e11]
        refine up_nextG m6 hk7 (by omega) ⟨(by first | ((try simp (maxSteps := 1000000) only [go_sem, Int.reduceEq, Int.reduceLT, Int.reduceLE, Int.reduceToNat, Nat.reduceLT, Nat.reduceEqDiff, Nat.reduceAdd, Nat.reduceLeDiff, Nat.reduceSub, Nat.reduceMul, ↓reduceIte, reduceCtorEq, w_app_nl]); done) | ((try simp (maxSteps := 1000000) only [go_sem, Int.reduceEq, Int.reduceLT, Int.reduceLE, Int.reduceToNat, Nat.reduceLT, Nat.reduceEqDiff, Nat.reduceAdd, Nat.reduceLeDiff, Nat.reduceSub, Nat.reduceMul, ↓reduceIte, reduceCtorEq, w_app_nl]); rfl) | ((try simp (maxSteps := 1000000) (disch := omega) only [go_sem, Int.reduceEq, Int.reduceLT, Int.reduceLE, Int.reduceToNat, Nat.reduceLT, Nat.reduceEqDiff, Nat.reduceAdd, Nat.reduceLeDiff, Nat.reduceSub, Nat.reduceMul, ↓reduceIte, reduceCtorEq, w_app_nl, wrap_id, w_ite_ne, w_ite_lt]); rfl) | (simp (maxSteps := 1000000) (disch := omega) only [go_sem, Int.reduceEq, Int.reduceLT, Int.reduceLE, Int.reduceToNat, Nat.reduceLT, Nat.reduceEqDiff, Nat.reduceAdd, Nat.reduceLeDiff, Nat.reduceSub, Nat.reduceMul, ↓reduceIte, reduceCtorEq, w_app_nl, wrap_id, w_ite_ne, w_ite_lt]; done)), ?_, ?_, ?_⟩
        · simp [St.trunc, upd, a1, cl14, show 1 < m6 by omega]
        · simp [St.trunc, upd, a3, show 3 < m6 by omega]
        · simp [St.trunc, upd, cl14, hul, hv7, show 4 < m6 by omega]
    · obtain rfl : k = 7 := by omega
      try simp (maxSteps := 500000) (disch := omega) only [go_sem, Int.reduceEq, Int.reduceLT, Int.reduceLE, Int.reduceToNat, Nat.reduceLT, Nat.reduceEqDiff, Nat.reduceAdd, Nat.reduceLeDiff, Nat.reduceSub, Nat.reduceMul, ↓reduceIte, reduceCtorEq, wrap_id, w_ite_ne, w_ite_lt, Nat.sub_zero, Nat.sub_self, h16]
      refine up_nextG m6 q5 (by omega) ⟨?_, ?_⟩
      · rw [hs6]
        try simp (maxSteps := 500000) (disch := omega) only [go_sem, Int.reduceEq, Int.reduceLT, Int.reduceLE, Int.reduceToNat, Nat.reduceLT, Nat.reduceEqDiff, Nat.reduceAdd, Nat.reduceLeDiff, Nat.reduceSub, Nat.reduceMul, ↓reduceIte, reduceCtorEq, wrap_id, w_ite_ne, w_ite_lt, Nat.sub_zero, Nat.sub_self]
      · rw [hs6]
        try simp (maxSteps := 500000) (disch := omega) only [go_sem, Int.reduceEq, Int.reduceLT, Int.reduceLE, Int.reduceToNat, Nat.reduceLT, Nat.reduceEqDiff, Nat.reduceAdd, Nat.reduceLeDiff, Nat.reduceSub, Nat.reduceMul, ↓reduceIte, reduceCtorEq, wrap_id, w_ite_ne, w_ite_lt, Nat.sub_zero, Nat.sub_self]
        refine ⟨?_, ?_, true, hul found g (s, i, o, p, l) 7, rfl, ?_, hH.step hval hR⟩
        · simp only [St.trunc]; rw [if_pos (by omega)]; exact a1
        · simp only [St.trunc]; rw [if_pos (by omega)]; exact a3
        · simp only [St.trunc]; rw [if_pos (by omega)]; exact a4
theorem law_law30_LedgerAll {c0 : List AV} (s0 : (Sh.slice 1 (.int .i64)).R c0) : PC prog n_law30_LedgerAll [(Sh.slice 1 (.int .i64)).mk1 c0] (.bool true) := by
  obtain ⟨l0, rfl, _, _⟩ := shInts s0
  exact ok_law30_LedgerAll l0
end Go.Proofs.Try
