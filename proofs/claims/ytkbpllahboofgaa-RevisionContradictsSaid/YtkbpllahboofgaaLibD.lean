/-
  OWN WORK, put together by tools/asm.py: what functions do.
-/
import Derived.Test.YtkbpllahboofgaaLibC
set_option linter.unusedSimpArgs false
set_option linter.unusedVariables false
set_option maxRecDepth 100000
set_option maxHeartbeats 1000000
namespace Go.Proofs.Try
open Go.Ab Go
def sA : Ac := ⟨0, [⟨100, 100⟩, ⟨90, 120⟩], [⟨10, 30⟩], [⟨0, 5⟩]⟩
def sT : Ac := ⟨0, [⟨100, 100⟩, ⟨105, 120⟩], [⟨10, 25⟩], [⟨0, 5⟩]⟩
theorem sA_t : tightS sA = (sT, 0) := by rfl
theorem sA_f : firstS sA = (([100, 105], [10], [5]), 0) := by rfl
theorem sA_c : chk sA = 0 := by rfl
theorem sA_h : holdsS sA [100, 105] [10] [5] = true := by rfl
theorem sA_l : AcL sA := by simp [AcL, sA]
/-- The account of an exact history of flows, and one exact stock. -/
def xB (S : List Int) (k : Int) (i : Nat) : Bd := if (i : Int) = k then ⟨S.getD i 0, S.getD i 0⟩ else ⟨0, 274877906944⟩
def xS (S : List Int) (k : Int) (m : Nat) : List Bd := mkL m (xB S k)
theorem gB_exL {L : List Int} {i : Nat} (h : i < L.length) : gB (exL L) i = ⟨L.getD i 0, L.getD i 0⟩ := by
  simp [gB, exL, List.getD_eq_getElem?_getD, h]
theorem exL_len (L : List Int) : (exL L).length = L.length := by simp [exL]
theorem mkL_eq {n : Nat} {f : Nat → Bd} {L : List Bd} (hl : L.length = n) (h : ∀ i, i < n → f i = gB L i) : mkL n f = L := by
  refine List.ext_getElem? fun i => ?_
  rcases Nat.lt_or_ge i n with hi | hi
  · rw [mkL_get f hi, h i hi, gB_get (by omega)]
  · rw [List.getElem?_eq_none (by simp [mkL]; exact hi), List.getElem?_eq_none (by omega)]
theorem exL_fit {L : List Int} (h : ∀ i, i < L.length → 0 ≤ L.getD i 0 ∧ L.getD i 0 ≤ 1000) : ∀ b ∈ exL L, fitB b := fun b hb => by
  obtain ⟨i, hi, rfl⟩ := List.mem_iff_getElem.1 hb
  rw [exL_len] at hi
  have h1 := h i hi
  simp only [exL, List.getElem_map, fitB, mxV]
  simp only [List.getD_eq_getElem?_getD, List.getElem?_eq_getElem hi, Option.getD_some] at h1
  omega
theorem exact_law {n : Nat} {S I O : List Int} (h : Hst n S I O) (h1 : 1 ≤ n) (h5 : n ≤ 5) {q : Nat} (hq : q ≤ n) :
    tightS ⟨0, xS S q (n + 1), exL I, exL O⟩ = (tgt ⟨0, xS S q (n + 1), exL I, exL O⟩, 0) ∧ (tgt ⟨0, xS S q (n + 1), exL I, exL O⟩).st = exL S := by
  have hS := h.ls
  have hI := h.li
  have hO := h.lo
  have gS : ∀ i, i ≤ n → gB (xS S q (n + 1)) i = xB S q i := fun i hi => gB_mk _ (by omega)
  have gI : ∀ i, i < n → gB (exL I) i = ⟨I.getD i 0, I.getD i 0⟩ := fun i hi => gB_exL (by omega)
  have gO : ∀ i, i < n → gB (exL O) i = ⟨O.getD i 0, O.getD i 0⟩ := fun i hi => gB_exL (by omega)
  have hl : (exL I).length = n := by rw [exL_len, hI]
  have hok : AcOK ⟨0, xS S q (n + 1), exL I, exL O⟩ := by
    refine ⟨by simp only [hl]; omega, by simp only [hl]; omega, by simp only [hl, exL_len, hO], by simp only [hl]; exact mkL_length _ _, by simp only; omega, by simp only [hl]; omega, fun b hb => ?_, exL_fit fun i hi => ?_, exL_fit fun i hi => ?_⟩
    · obtain ⟨i, hi, rfl⟩ := mkL_mem hb
      have := h.s i (by omega)
      unfold xB
      split <;> simp only [fitB, mxV] <;> omega
    · have := h.i i (by omega); omega
    · have := h.o i (by omega); omega
  have hhi : Hi (gB (xS S q (n + 1))) (gB (exL I)) (gB (exL O)) n (fun i => S.getD i 0) (fun i => I.getD i 0) (fun i => O.getD i 0) := by
    refine ⟨fun i hi => ?_, fun i hi => ?_, fun i hi => ?_, fun i hi => h.bal i hi⟩
    · rw [gS i hi]
      have := h.s i (by omega)
      unfold xB
      split <;> simp only [inB] <;> omega
    · rw [gI i hi]; simp only [inB]; omega
    · rw [gO i hi]; simp only [inB]; omega
  have hvd : VD (xS S q (n + 1)) (exL I) (exL O) n := fun i hi => hhi.vd.f i hi
  have hV := hhi.vd
  refine ⟨tightS_yes hok (by simp only [hl]; exact hvd), ?_⟩
  simp only [tgt, hl]
  refine mkL_eq (by rw [exL_len, hS]) fun i hi => ?_
  rw [gB_exL (by omega)]
  have key : ∀ v, inB (cB (xS S q (n + 1)) (exL I) (exL O) n i) v → v = S.getD i 0 := fun v hv => by
    obtain ⟨s, x, y, hs, rfl⟩ := hV.hiS (by omega) hv
    have hx : ∀ j, j ≤ n → s j - S.getD j 0 = s 0 - S.getD 0 0 := fun j => by
      induction j with
      | zero => intro _; rfl
      | succ j ih =>
        intro hj
        have a1 := ih (by omega)
        have a2 := hs.bal j (by omega)
        have a3 := h.bal j (by omega)
        have a4 := hs.ins j (by omega)
        have a5 := hs.outs j (by omega)
        rw [gI j (by omega)] at a4
        rw [gO j (by omega)] at a5
        simp only [inB] at a4 a5
        omega
    have h1 := hx q hq
    have h2 := hx i (by omega)
    have h3 := hs.st q hq
    rw [gS q hq] at h3
    simp only [xB, if_true, inB] at h3
    omega
  have hb := hV.B (i := i) (by omega)
  unfold cB at key ⊢
  have k1 := key _ ⟨Int.le_refl _, hb⟩
  have k2 := key _ ⟨hb, Int.le_refl _⟩
  generalize chB (gB (xS S q (n + 1))) (gB (exL I)) (gB (exL O)) n i = b at *
  obtain ⟨b1, b2⟩ := b
  simp only at k1 k2
  rw [k1, k2]
theorem gB_set {L : List Bd} {i j : Nat} {b : Bd} (hi : i < L.length) : gB (L.set i b) j = if j = i then b else gB L j := by
  simp only [gB, List.getD_eq_getElem?_getD, List.getElem?_set]
  by_cases e : i = j
  · subst e; simp [hi]
  · rw [if_neg e, if_neg fun h => e h.symm]
/-- the f-th of three -/
def nth3 {α : Type} (f : Nat) (s x y : α) : α := if f = 1 then s else if f = 2 then x else y
def HiA (a : Ac) (n : Nat) (s x y : Nat → Int) : Prop := Hi (gB a.st) (gB a.ins) (gB a.outs) n s x y
theorem set_fitB {L : List Bd} {i : Nat} {b : Bd} (h : ∀ b ∈ L, fitB b) (hb : fitB b) : ∀ c ∈ L.set i b, fitB c := fun c hc => by
  rcases List.mem_or_eq_of_mem_set hc with h1 | rfl
  · exact h c h1
  · exact hb
theorem set_in {L : List Bd} {i n : Nat} {v : Int} {s : Nat → Int} (hi : i < L.length) (hL : L.length = n) (hv : inB (gB L i) v) :
    (∀ j, j < n → inB (gB (L.set i ⟨v, v⟩) j) (s j)) ↔ (∀ j, j < n → inB (gB L j) (s j)) ∧ s i = v := by
  constructor
  · intro h
    have h1 := h i (by omega)
    rw [gB_set hi, if_pos rfl] at h1
    simp only [inB] at h1
    refine ⟨fun j hj => ?_, by omega⟩
    have h2 := h j hj
    rw [gB_set hi] at h2
    split at h2
    · rename_i e; subst e; rw [show s j = v by omega]; exact hv
    · exact h2
  · rintro ⟨h1, h2⟩ j hj
    rw [gB_set hi]
    split
    · rename_i e; subst e; rw [h2]; simp [inB]
    · exact h1 j hj
/-- **A number of an account is fixed: what is left are the histories with that number.** -/
theorem fix_law {a : Ac} (h : AcOK a) {f i : Nat} (hf : f = 1 ∨ f = 2 ∨ f = 3) (hi : i < (fldL a f).length) {v : Int} (hv : inB (gB (fldL a f) i) v) :
    ∃ c, fixS a f (a.fr + i) ⟨v, v⟩ = (c, 0) ∧ AcOK c ∧ c.ins.length = a.ins.length ∧ ∀ s x y, HiA c a.ins.length s x y ↔ HiA a a.ins.length s x y ∧ nth3 f s x y i = v := by
  have hfit : fitB (gB (fldL a f) i) := by
    refine (?_ : ∀ b ∈ fldL a f, fitB b) _ (List.mem_of_getElem? (gB_get hi))
    rcases hf with rfl | rfl | rfl
    · exact h.bs
    · exact h.bi
    · exact h.bo
  have hvf : fitB ⟨v, v⟩ := by simp only [fitB, inB] at *; omega
  have hlen := h.ns
  have hlo := h.no
  refine ⟨setL a f ((fldL a f).set i ⟨v, v⟩), ?_, ?_, ?_, ?_⟩
  · unfold fixS
    rw [if_neg (by simp [chk_ok.2 h]), if_neg (by omega), show ((f : Nat) : Int).toNat = f by omega, if_neg (by omega), show (a.fr + (i : Int) - a.fr).toNat = i by omega]
    have : narB (gB (fldL a f) i) ⟨v, v⟩ = some ⟨v, v⟩ := by
      simp only [inB] at hv
      unfold narB
      rw [if_pos (by simp only; omega), meetB]
      simp only [Option.some.injEq, Bd.mk.injEq]
      omega
    rw [this]
  · rcases hf with rfl | rfl | rfl
    · exact ⟨h.n1, h.n2, h.no, by simp [setL, fldL, h.ns], h.f0, h.f1, set_fitB h.bs hvf, h.bi, h.bo⟩
    · refine ⟨?_, ?_, ?_, ?_, h.f0, ?_, h.bs, set_fitB h.bi hvf, h.bo⟩ <;> simp only [setL, fldL, if_true, if_false, List.length_set, reduceCtorEq, Nat.reduceEqDiff]
      · exact h.n1
      · exact h.n2
      · exact h.no
      · exact h.ns
      · exact h.f1
    · exact ⟨h.n1, h.n2, by simp [setL, fldL, h.no], h.ns, h.f0, h.f1, h.bs, h.bi, set_fitB h.bo hvf⟩
  · rcases hf with rfl | rfl | rfl <;> simp [setL, fldL]
  · intro s x y
    have con : ∀ {S X Y : Nat → Bd}, Hi S X Y a.ins.length s x y ↔ (∀ j, j < a.ins.length + 1 → inB (S j) (s j)) ∧ (∀ j, j < a.ins.length → inB (X j) (x j)) ∧ (∀ j, j < a.ins.length → inB (Y j) (y j)) ∧ ∀ j, j < a.ins.length → s (j + 1) = s j + x j - y j :=
      ⟨fun h => ⟨fun j hj => h.st j (by omega), h.ins, h.outs, h.bal⟩, fun h => ⟨fun j hj => h.1 j (by omega), h.2.1, h.2.2.1, h.2.2.2⟩⟩
    unfold HiA
    rw [con, con]
    rcases hf with rfl | rfl | rfl
    · have := set_in (s := s) hi h.ns hv
      simp only [setL, fldL, nth3, if_true] at this ⊢
      rw [this]
      constructor
      · rintro ⟨⟨h1, h2⟩, h3⟩; exact ⟨⟨h1, h3⟩, h2⟩
      · rintro ⟨⟨h1, h3⟩, h2⟩; exact ⟨⟨h1, h2⟩, h3⟩
    · have := set_in (s := x) hi rfl hv
      simp only [setL, fldL, nth3, if_true, if_false, Nat.reduceEqDiff] at this ⊢
      rw [this]
      constructor
      · rintro ⟨h0, ⟨h1, h2⟩, h3⟩; exact ⟨⟨h0, h1, h3⟩, h2⟩
      · rintro ⟨⟨h0, h1, h3⟩, h2⟩; exact ⟨h0, ⟨h1, h2⟩, h3⟩
    · have := set_in (s := y) hi h.no hv
      simp only [setL, fldL, nth3, if_false, Nat.reduceEqDiff] at this ⊢
      rw [this]
      constructor
      · rintro ⟨h0, h00, ⟨h1, h2⟩, h3⟩; exact ⟨⟨h0, h00, h1, h3⟩, h2⟩
      · rintro ⟨⟨h0, h00, h1, h3⟩, h2⟩; exact ⟨h0, h00, ⟨h1, h2⟩, h3⟩
abbrev Ac.tg (a : Ac) : Ac := tgt a
theorem HiA.vd {a : Ac} {s x y : Nat → Int} (h : HiA a a.ins.length s x y) : VD a.st a.ins a.outs a.ins.length := fun i hi => (Hi.vd h).f i hi
theorem tgt_len (a : Ac) : (tgt a).ins.length = a.ins.length := mkL_length _ _
theorem HiA.tgt {a : Ac} {s x y : Nat → Int} (h : HiA a a.ins.length s x y) : HiA (tgt a) a.ins.length s x y := by
  have h1 := Hi.left h
  exact ⟨fun i hi => by rw [tgt_st hi]; exact h1.st i hi, fun i hi => by rw [tgt_ins hi]; exact h1.ins i hi, fun i hi => by rw [tgt_outs hi]; exact h1.outs i hi, h1.bal⟩
theorem HiA.of_tgt {a : Ac} {s x y : Nat → Int} (h : HiA (Ac.tg a) a.ins.length s x y) : HiA a a.ins.length s x y := by
  refine Hi.of_left ⟨fun i hi => ?_, fun i hi => ?_, fun i hi => ?_, h.bal⟩
  · have := h.st i hi; rw [tgt_st hi] at this; exact this
  · have := h.ins i hi; rw [tgt_ins hi] at this; exact this
  · have := h.outs i hi; rw [tgt_outs hi] at this; exact this
/-- What is drawn is a history of the account. -/
theorem Drn.hi {a : Ac} {n : Nat} {S I O : List Int} (h : Drn a n S I O) : a.ins.length = n ∧ HiA a n (fun i => S.getD i 0) (fun i => I.getD i 0) (fun i => O.getD i 0) := by
  have h1 := h.h.ls
  have h2 := h.h.li
  have h3 := h.h.lo
  refine ⟨by rw [h.i.ln, h2], fun i hi => ?_, fun i hi => ?_, fun i hi => ?_, h.h.bal⟩
  · have := h.s.b i (by omega); exact ⟨this.2.1, this.2.2.1⟩
  · have := h.i.b i (by omega); exact ⟨this.2.1, this.2.2.1⟩
  · have := h.o.b i (by omega); exact ⟨this.2.1, this.2.2.1⟩
theorem AcOK.l {a : Ac} (h : AcOK a) : AcL a := by
  have := h.n2; have := h.no; have := h.ns
  exact ⟨by omega, by omega, by omega⟩
theorem bd_ext {b c : Bd} (hb : valB b) (hc : valB c) (h1 : ∀ v, inB b v → inB c v) (h2 : ∀ v, inB c v → inB b v) : b = c := by
  have a1 := h1 _ ⟨Int.le_refl _, hb⟩
  have a2 := h1 _ ⟨hb, Int.le_refl _⟩
  have a3 := h2 _ ⟨Int.le_refl _, hc⟩
  have a4 := h2 _ ⟨hc, Int.le_refl _⟩
  rw [bd_eq]
  simp only [inB] at *
  omega
theorem ac_ext : ∀ {a b : Ac}, a.fr = b.fr → a.st = b.st → a.ins = b.ins → a.outs = b.outs → a = b
  | ⟨_, _, _, _⟩, ⟨_, _, _, _⟩, rfl, rfl, rfl, rfl => rfl
section
variable {a : Ac} (h : AcOK a) (hv : VD a.st a.ins a.outs a.ins.length)
include h hv
theorem cB_iff {i : Nat} (hi : i ≤ a.ins.length) (v : Int) : inB (cB a.st a.ins a.outs a.ins.length i) v ↔ ∃ s x y, HiA a a.ins.length s x y ∧ s i = v :=
  ⟨fun hh => (h.lens.vd hv).hiS hi hh, fun ⟨s, x, y, hh, e⟩ => e ▸ Hi.B hh hi⟩
theorem cX_iff {i : Nat} (hi : i < a.ins.length) (v : Int) : inB (cX a.st a.ins a.outs a.ins.length i) v ↔ ∃ s x y, HiA a a.ins.length s x y ∧ x i = v :=
  ⟨fun hh => (h.lens.vd hv).hiX hi hh, fun ⟨s, x, y, hh, e⟩ => e ▸ (Hi.left hh).ins i hi⟩
theorem cY_iff {i : Nat} (hi : i < a.ins.length) (v : Int) : inB (cY a.st a.ins a.outs a.ins.length i) v ↔ ∃ s x y, HiA a a.ins.length s x y ∧ y i = v :=
  ⟨fun hh => (h.lens.vd hv).hiY hi hh, fun ⟨s, x, y, hh, e⟩ => e ▸ (Hi.left hh).outs i hi⟩
theorem some_hi : ∃ s x y, HiA a a.ins.length s x y := by
  obtain ⟨s, x, y, hh, _⟩ := (cB_iff h hv (Nat.zero_le _) _).1 ⟨Int.le_refl _, (h.lens.vd hv).B (Nat.zero_le _)⟩
  exact ⟨s, x, y, hh⟩
theorem tgt_vd : VD (tgt a).st (tgt a).ins (tgt a).outs (tgt a).ins.length := by
  obtain ⟨s, x, y, hh⟩ := some_hi h hv
  exact HiA.vd (by rw [tgt_len]; exact hh.tgt)
/-- **To make an account narrower twice is to do it once.** -/
theorem tgt_tgt : tgt (tgt a) = tgt a := by
  have h2 := tgt_ok h hv
  have hv2 := tgt_vd h hv
  have hl := tgt_len a
  have con : ∀ s x y, HiA (tgt a) (tgt a).ins.length s x y ↔ HiA a a.ins.length s x y := fun s x y => by rw [hl]; exact ⟨HiA.of_tgt, HiA.tgt⟩
  have e1 : (tgt (tgt a)).st = (tgt a).st := by
    show mkL _ _ = _
    refine mkL_eq (by rw [hl]; exact mkL_length _ _) fun i hi => ?_
    rw [hl] at hi
    rw [tgt_st (by omega)]
    refine bd_ext ((h2.lens.vd hv2).B (by omega)) ((h.lens.vd hv).B (by omega)) (fun v => ?_) fun v => ?_
    · intro hh
      rw [cB_iff h2 hv2 (by omega)] at hh
      rw [cB_iff h hv (by omega)]
      simpa only [con] using hh
    · intro hh
      rw [cB_iff h hv (by omega)] at hh
      rw [cB_iff h2 hv2 (by omega)]
      simpa only [con] using hh
  have e2 : (tgt (tgt a)).ins = (tgt a).ins := by
    show mkL _ _ = _
    refine mkL_eq rfl fun i hi => ?_
    rw [hl] at hi
    rw [tgt_ins (by omega)]
    refine bd_ext ((h2.lens.vd hv2).cx (by omega)) ((h.lens.vd hv).cx (by omega)) (fun v => ?_) fun v => ?_
    · intro hh
      have hh := (cX_iff h2 hv2 (by omega) v).1 hh
      refine (cX_iff h hv (by omega) v).2 ?_
      simpa only [con] using hh
    · intro hh
      have hh := (cX_iff h hv (by omega) v).1 hh
      refine (cX_iff h2 hv2 (by omega) v).2 ?_
      simpa only [con] using hh
  have e3 : (tgt (tgt a)).outs = (tgt a).outs := by
    show mkL _ _ = _
    refine mkL_eq (by rw [hl]; exact mkL_length _ _) fun i hi => ?_
    rw [hl] at hi
    rw [tgt_outs (by omega)]
    refine bd_ext ((h2.lens.vd hv2).cy (by omega)) ((h.lens.vd hv).cy (by omega)) (fun v => ?_) fun v => ?_
    · intro hh
      have hh := (cY_iff h2 hv2 (by omega) v).1 hh
      refine (cY_iff h hv (by omega) v).2 ?_
      simpa only [con] using hh
    · intro hh
      have hh := (cY_iff h hv (by omega) v).1 hh
      refine (cY_iff h2 hv2 (by omega) v).2 ?_
      simpa only [con] using hh
  have e0 : (tgt (tgt a)).fr = (tgt a).fr := rfl
  exact ac_ext e0 e1 e2 e3
end
theorem sum_le : ∀ {L M : List Bd}, L.length = M.length → (∀ i, i < L.length → (gB M i).lo ≤ (gB L i).lo ∧ (gB L i).hi ≤ (gB M i).hi) → widL L ≤ widL M
  | [], [], _, _ => Int.le_refl _
  | [], _ :: _, h, _ => by simp at h
  | _ :: _, [], h, _ => by simp at h
  | b :: L, c :: M, h, hh => by
    have h0 := hh 0 (by simp)
    have h1 := sum_le (L := L) (M := M) (by simpa using h) fun i hi => by
      have := hh (i + 1) (by simp; omega)
      simpa [gB] using this
    simp only [gB, List.getD_cons_zero] at h0
    simp only [widL, List.map_cons, List.sum_cons] at h1 ⊢
    omega
theorem wid_le {a : Ac} (h : AcOK a) (hv : VD a.st a.ins a.outs a.ins.length) : widK (tgt a) 3 ≤ widK a 3 := by
  have hl := tgt_len a
  have hls : (tgt a).st.length = a.ins.length + 1 := mkL_length _ _
  have hlo : (tgt a).outs.length = a.ins.length := mkL_length _ _
  have hs := h.ns
  have ho := h.no
  have sub : ∀ {b c : Bd}, valB b → (∀ v, inB b v → inB c v) → c.lo ≤ b.lo ∧ b.hi ≤ c.hi := fun hb hh => ⟨(hh _ ⟨Int.le_refl _, hb⟩).1, (hh _ ⟨hb, Int.le_refl _⟩).2⟩
  have w1 : widL (tgt a).st ≤ widL a.st := sum_le (by omega) fun i hi => by
    rw [tgt_st (by omega)]
    refine sub ((h.lens.vd hv).B (by omega)) fun v hh => ?_
    obtain ⟨s, x, y, h9, rfl⟩ := (cB_iff h hv (by omega) v).1 hh
    exact h9.st i (by omega)
  have w2 : widL (tgt a).ins ≤ widL a.ins := sum_le (by omega) fun i hi => by
    rw [tgt_ins (by omega)]
    refine sub ((h.lens.vd hv).cx (by omega)) fun v hh => ?_
    obtain ⟨s, x, y, h9, rfl⟩ := (cX_iff h hv (by omega) v).1 hh
    exact h9.ins i (by omega)
  have w3 : widL (tgt a).outs ≤ widL a.outs := sum_le (by omega) fun i hi => by
    rw [tgt_outs (by omega)]
    refine sub ((h.lens.vd hv).cy (by omega)) fun v hh => ?_
    obtain ⟨s, x, y, h9, rfl⟩ := (cY_iff h hv (by omega) v).1 hh
    exact h9.outs i (by omega)
  simp only [widK, if_true, show 1 ≤ 3 by omega, show 2 ≤ 3 by omega]
  omega
theorem Hst.exok {n : Nat} {S I O : List Int} (h : Hst n S I O) (h1 : 1 ≤ n) (h5 : n ≤ 5) : AcOK ⟨0, exL S, exL I, exL O⟩ := by
  have hS := h.ls
  have hI := h.li
  have hO := h.lo
  refine ⟨by simp only [exL_len]; omega, by simp only [exL_len]; omega, by simp only [exL_len]; omega, by simp only [exL_len]; omega, by simp only; omega, by simp only [exL_len]; omega, exL_fit fun i hi => ?_, exL_fit fun i hi => ?_, exL_fit fun i hi => ?_⟩
  · have := h.s i (by omega); omega
  · have := h.i i (by omega); omega
  · have := h.o i (by omega); omega
theorem Hst.res {n : Nat} {S I O : List Int} (h : Hst n S I O) (h1 : 1 ≤ n) (h5 : n ≤ 5) : resS ⟨0, exL S, exL I, exL O⟩ = (mkL n fun _ => ⟨0, 0⟩, 0) := by
  have hS := h.ls
  have hI := h.li
  have hO := h.lo
  unfold resS
  rw [if_neg (by simp [chk_ok.2 (h.exok h1 h5)])]
  simp only [exL_len, hI]
  congr 1
  refine mkL_ext fun i hi => ?_
  have := h.bal i hi
  simp only [rsB]
  rw [gB_exL (by omega), gB_exL (by omega), gB_exL (by omega), gB_exL (by omega)]
  rw [bd_eq]
  simp only
  omega
theorem Hi.congr {S X Y : Nat → Bd} {n : Nat} {s x y s2 x2 y2 : Nat → Int} (h : Hi S X Y n s x y) (h1 : ∀ i, i ≤ n → s2 i = s i) (h2 : ∀ i, i < n → x2 i = x i) (h3 : ∀ i, i < n → y2 i = y i) : Hi S X Y n s2 x2 y2 :=
  ⟨fun i hi => by rw [h1 i hi]; exact h.st i hi, fun i hi => by rw [h2 i hi]; exact h.ins i hi, fun i hi => by rw [h3 i hi]; exact h.outs i hi, fun i hi => by rw [h1 i (by omega), h1 (i + 1) (by omega), h2 i hi, h3 i hi]; exact h.bal i hi⟩
theorem fld_iff {a : Ac} (h : AcOK a) (hv : VD a.st a.ins a.outs a.ins.length) {f i : Nat} (hf : f = 1 ∨ f = 2 ∨ f = 3) (hi : i < (fldL a f).length) (v : Int) :
    inB (gB (fldL (tgt a) f) i) v ↔ ∃ s x y, HiA a a.ins.length s x y ∧ nth3 f s x y i = v := by
  have h1 := h.ns
  have h2 := h.no
  rcases hf with rfl | rfl | rfl
  · simp only [fldL, nth3, if_true] at hi ⊢
    rw [tgt_st (by omega)]; exact cB_iff h hv (by omega) v
  · simp only [fldL, nth3, if_true, if_false, Nat.reduceEqDiff] at hi ⊢
    rw [tgt_ins (by omega)]; exact cX_iff h hv (by omega) v
  · simp only [fldL, nth3, if_false, Nat.reduceEqDiff] at hi ⊢
    rw [tgt_outs (by omega)]; exact cY_iff h hv (by omega) v
theorem fld_hi {a : Ac} (h : AcOK a) {f i : Nat} (hf : f = 1 ∨ f = 2 ∨ f = 3) (hi : i < (fldL a f).length) {s x y : Nat → Int} (hh : HiA a a.ins.length s x y) : inB (gB (fldL a f) i) (nth3 f s x y i) := by
  have h1 := h.ns
  have h2 := h.no
  rcases hf with rfl | rfl | rfl
  · simp only [fldL, nth3, if_true] at hi ⊢; exact hh.st i (by omega)
  · simp only [fldL, nth3, if_true, if_false, Nat.reduceEqDiff] at hi ⊢; exact hh.ins i hi
  · simp only [fldL, nth3, if_false, Nat.reduceEqDiff] at hi ⊢; exact hh.outs i (by omega)
/-- **A number that is left is of a history: it is handed out.** -/
theorem sharp_law {a : Ac} (h : AcOK a) (hv : VD a.st a.ins a.outs a.ins.length) {f i : Nat} (hf : f = 1 ∨ f = 2 ∨ f = 3) (hi : i < (fldL a f).length) {v : Int} (hvv : inB (gB (fldL (tgt a) f) i) v) :
    ∃ y s x w, fixS a f (a.fr + i) ⟨v, v⟩ = (y, 0) ∧ AcOK y ∧ firstS y = ((s, x, w), 0) ∧ holdsS a s x w = true ∧ s.length = a.ins.length + 1 ∧ x.length = a.ins.length ∧ w.length = a.ins.length ∧ (nth3 f s x w)[i]? = some v := by
  obtain ⟨s, x, y, hh, rfl⟩ := (fld_iff h hv hf hi v).1 hvv
  obtain ⟨c, c1, c2, c3, c4⟩ := fix_law h hf hi (fld_hi h hf hi hh)
  have hc : HiA c c.ins.length s x y := by rw [c3, c4]; exact ⟨hh, rfl⟩
  have hcv := hc.vd
  have hF := first_hi c2 hcv
  have hF2 : HiA c a.ins.length (sq c (tgt c)) (cm c (tgt c)) (og c (tgt c)) := by rw [← c3]; exact hF
  obtain ⟨e1, e2⟩ := (c4 _ _ _).1 hF2
  have h1 := h.ns
  have h2 := h.no
  refine ⟨c, mkI (a.ins.length + 1) (sq c (tgt c)), mkI a.ins.length (cm c (tgt c)), mkI a.ins.length (og c (tgt c)), c1, c2, ?_, holdsS_iff.2 ⟨h, mkI_length _ _, mkI_length _ _, mkI_length _ _, ?_⟩, mkI_length _ _, mkI_length _ _, mkI_length _ _, ?_⟩
  · unfold firstS
    rw [tightS_yes c2 hcv, if_neg (by simp), c3]
  · exact Hi.congr e1 (fun i hi => mkI_getD _ (by omega)) (fun i hi => mkI_getD _ hi) (fun i hi => mkI_getD _ hi)
  · rw [← e2]
    rcases hf with rfl | rfl | rfl
    · simp only [fldL, nth3, if_true] at hi ⊢; exact mkI_get _ (by omega)
    · simp only [fldL, nth3, if_true, if_false, Nat.reduceEqDiff] at hi ⊢; exact mkI_get _ hi
    · simp only [fldL, nth3, if_false, Nat.reduceEqDiff] at hi ⊢; exact mkI_get _ (by omega)
/-- **Nothing beyond what is left is of a history.** -/
theorem beyond_law {a : Ac} (h : AcOK a) (hv : VD a.st a.ins a.outs a.ins.length) {f i : Nat} (hf : f = 1 ∨ f = 2 ∨ f = 3) (hi : i < (fldL a f).length) {v : Int} (hvv : ¬ inB (gB (fldL (tgt a) f) i) v) (ho : inB (gB (fldL a f) i) v) :
    ∃ z, fixS a f (a.fr + i) ⟨v, v⟩ = (z, 0) ∧ AcOK z ∧ tightS z = (acZ, 48) := by
  obtain ⟨c, c1, c2, c3, c4⟩ := fix_law h hf hi ho
  refine ⟨c, c1, c2, tightS_no c2 fun hz => ?_⟩
  obtain ⟨s, x, y, hh⟩ := some_hi c2 hz
  rw [c3] at hh
  obtain ⟨e1, e2⟩ := (c4 _ _ _).1 hh
  exact hvv ((fld_iff h hv hf hi v).2 ⟨s, x, y, e1, e2⟩)
theorem fld_val {a : Ac} (h : AcOK a) (hv : VD a.st a.ins a.outs a.ins.length) {f i : Nat} (hf : f = 1 ∨ f = 2 ∨ f = 3) (hi : i < (fldL a f).length) : valB (gB (fldL (tgt a) f) i) := by
  have h1 := h.ns
  have h2 := h.no
  rcases hf with rfl | rfl | rfl
  · simp only [fldL, if_true] at hi ⊢
    rw [tgt_st (by omega)]; exact (h.lens.vd hv).B (by omega)
  · simp only [fldL, if_true, if_false, Nat.reduceEqDiff] at hi ⊢
    rw [tgt_ins (by omega)]; exact (h.lens.vd hv).cx (by omega)
  · simp only [fldL, if_false, Nat.reduceEqDiff] at hi ⊢
    rw [tgt_outs (by omega)]; exact (h.lens.vd hv).cy (by omega)
theorem tightS_l (a : Ac) : AcL (tightS a).1 := by
  by_cases h : (tightS a).2 = 0
  · obtain ⟨h1, h2, h3⟩ := tightS_ok h
    rw [h3]; exact (tgt_ok h1 h2).l
  · unfold tightS at h ⊢
    split
    · simp [acZ, AcL]
    · split
      · rename_i h1 h2; rw [if_neg h1, if_pos h2] at h; exact absurd rfl h
      · simp [acZ, AcL]
theorem setL_l {a : Ac} (h : AcL a) {f : Nat} {l : List Bd} (hl : l.length ≤ 9223372036854775807) : AcL (setL a f l) := by
  unfold setL
  split
  · exact ⟨hl, h.2.1, h.2.2⟩
  · split
    · exact ⟨h.1, hl, h.2.2⟩
    · exact ⟨h.1, h.2.1, hl⟩
theorem fldL_l {a : Ac} (h : AcL a) (f : Nat) : (fldL a f).length ≤ 9223372036854775807 := by
  unfold fldL
  split
  · exact h.1
  · split
    · exact h.2.1
    · exact h.2.2
theorem fixS_l {a : Ac} (h : AcL a) (f t : Int) (b : Bd) : AcL (fixS a f t b).1 := by
  have hz : AcL acZ := by simp [acZ, AcL]
  unfold fixS
  split
  · exact hz
  · split
    · exact hz
    · split
      · exact hz
      · split
        · exact hz
        · exact setL_l h (by rw [List.length_set]; exact fldL_l h _)
theorem firstS_len (a : Ac) : (firstS a).1.1.length ≤ 401 ∧ (firstS a).1.2.1.length ≤ 401 ∧ (firstS a).1.2.2.length ≤ 401 := by
  unfold firstS
  split
  · simp
  · rename_i h
    simp only [ne_eq, Decidable.not_not] at h
    have := (tightS_ok h).1.n2
    simp only [mkI_length]
    omega
theorem resS_len (a : Ac) : (resS a).1.length ≤ 400 := by
  unfold resS
  split
  · simp
  · rename_i h
    simp only [ne_eq, Decidable.not_not] at h
    have := (chk_ok.1 h).n2
    simp only [mkL_length]
    omega
theorem two_ac (a b : Ac) {k : Nat} (h : k < 2) : ∃ c, [acv a, acv b][k]? = some (acv c) ∧ (c = a ∨ c = b) := by
  rcases (by omega : k = 0 ∨ k = 1) with rfl | rfl
  · exact ⟨a, rfl, .inl rfl⟩
  · exact ⟨b, rfl, .inr rfl⟩
theorem two_bd (a b : Bd) {k : Nat} (h : k < 2) : ∃ c, [bdv a, bdv b][k]? = some (bdv c) := by
  rcases (by omega : k = 0 ∨ k = 1) with rfl | rfl
  · exact ⟨a, rfl⟩
  · exact ⟨b, rfl⟩
def prv (p : Int × Int) : AV := .agg [.int .i64 p.1, .int .i64 p.2]
def inI (x : Int) : Prop := -9223372036854775808 ≤ x ∧ x ≤ 9223372036854775807
theorem two_pr {p q : Int × Int} {k : Nat} (h : k < 2) (hp : inI p.1 ∧ inI p.2) (hq : inI q.1 ∧ inI q.2) : ∃ c, [prv p, prv q][k]? = some (prv c) ∧ inI c.1 ∧ inI c.2 := by
  rcases (by omega : k = 0 ∨ k = 1) with rfl | rfl
  · exact ⟨p, rfl, hp⟩
  · exact ⟨q, rfl, hq⟩
theorem wrap_in (n : Int) : inI (IntKind.i64.wrap n) := by
  simp [inI, IntKind.wrap, IntKind.signed, IntKind.bits]
  split <;> omega
/-! LAYER 31, PLAIN. Books. -/
structure Rp where
  nu : Int
  ac : Int
  fd : Int
  tm : Int
  b : Bd
  deriving DecidableEq, Inhabited
structure Bk where
  op : List Ac
  rp : List Rp
def rpv (r : Rp) : AV := .agg [.int .i64 r.nu, .int .i64 r.ac, .int .i64 r.fd, .int .i64 r.tm, .int .i64 r.b.lo, .int .i64 r.b.hi]
def rps (l : List Rp) : List AV := l.map rpv
def acs (l : List Ac) : List AV := l.map acv
theorem rps_length (l : List Rp) : (rps l).length = l.length := by simp [rps]
theorem rps_get (l : List Rp) (i : Nat) : (rps l)[i]? = (l[i]?).map rpv := by simp [rps]
theorem rps_pur (l : List Rp) : ∀ x ∈ rps l, x.pur = true := by simp [rps, rpv, go_sem]
theorem rps_ok (l : List Rp) : ∀ x ∈ rps l, okE 6 x := by simp [rps, rpv, okE, go_sem]
theorem acs_length (l : List Ac) : (acs l).length = l.length := by simp [acs]
theorem acs_get (l : List Ac) (i : Nat) : (acs l)[i]? = (l[i]?).map acv := by simp [acs]
theorem acs_pur (l : List Ac) : ∀ x ∈ acs l, x.pur = true := by
  intro x hx
  obtain ⟨a, _, rfl⟩ := List.mem_map.1 hx
  exact acv_pur a
theorem acs_ok (l : List Ac) : ∀ x ∈ acs l, okE 4 x := by simp [acs, acv, okE, go_sem]
def bkv (B : Bk) : AV := .agg [.list 4 (acs B.op), .list 6 (rps B.rp)]
def gA (l : List Ac) (i : Nat) : Ac := (l[i]?).getD acZ
def gR (l : List Rp) (i : Nat) : Rp := l.getD i default
theorem gA_get {l : List Ac} {i : Nat} (h : i < l.length) : l[i]? = some (gA l i) := by simp [gA, h]
theorem gR_get {l : List Rp} {i : Nat} (h : i < l.length) : l[i]? = some (gR l i) := by simp [gR, List.getD_eq_getElem?_getD, h]
/-- a report is right in its form for an account -/
structure RpA (a : Ac) (r : Rp) : Prop where
  fd : r.fd = 1 ∨ r.fd = 2 ∨ r.fd = 3
  t0 : a.fr ≤ r.tm
  t1 : r.tm < a.fr + ((fldL a r.fd.toNat).length : Int)
  b : fitB r.b
structure RpOK (op : List Ac) (r : Rp) : Prop where
  n1 : 1 ≤ r.nu
  n2 : r.nu ≤ 1073741824
  a0 : 0 ≤ r.ac
  a1 : r.ac < op.length
  a : RpA (gA op r.ac.toNat) r
structure BkOK (B : Bk) : Prop where
  n : B.op.length ≤ 16
  ao : ∀ a ∈ B.op, AcOK a
  m : B.rp.length ≤ 4096
  asc : B.rp.Pairwise fun a b => a.nu < b.nu
  ro : ∀ r ∈ B.rp, RpOK B.op r
/-- what a report says of a history -/
def RpH (a : Ac) (r : Rp) (s x y : Nat → Int) : Prop := inB r.b (nth3 r.fd.toNat s x y (r.tm - a.fr).toNat)
theorem set_inB {L : List Bd} {i n : Nat} {d b : Bd} {s : Nat → Int} (hi : i < L.length) (hL : L.length = n) (hd : ∀ v, inB d v ↔ inB (gB L i) v ∧ inB b v) :
    (∀ j, j < n → inB (gB (L.set i d) j) (s j)) ↔ (∀ j, j < n → inB (gB L j) (s j)) ∧ inB b (s i) := by
  constructor
  · intro h
    have h1 := h i (by omega)
    rw [gB_set hi, if_pos rfl, hd] at h1
    refine ⟨fun j hj => ?_, h1.2⟩
    have h2 := h j hj
    rw [gB_set hi] at h2
    split at h2
    · rename_i e; subst e; exact h1.1
    · exact h2
  · rintro ⟨h1, h2⟩ j hj
    rw [gB_set hi]
    split
    · rename_i e; subst e; exact (hd _).2 ⟨h1 j hj, h2⟩
    · exact h1 j hj
/-- **A report is taken up: what is left are the histories of which it is right.** -/
theorem fix_lawB {a : Ac} (h : AcOK a) {r : Rp} (hr : RpA a r) :
    (∃ c, fixS a r.fd r.tm r.b = (c, 0) ∧ AcOK c ∧ c.ins.length = a.ins.length ∧ c.fr = a.fr ∧ ∀ s x y, HiA c a.ins.length s x y ↔ HiA a a.ins.length s x y ∧ RpH a r s x y) ∨
    (fixS a r.fd r.tm r.b = (acZ, 48) ∧ ∀ s x y, HiA a a.ins.length s x y → ¬ RpH a r s x y) := by
  obtain ⟨nu, ac, fd, tm, b⟩ := r
  obtain ⟨hf0, ht0, ht1, hb⟩ := hr
  simp only at hf0 ht0 ht1 hb
  obtain ⟨f, rfl⟩ : ∃ f : Nat, fd = f := ⟨fd.toNat, by omega⟩
  obtain ⟨i, rfl⟩ : ∃ i : Nat, tm = a.fr + i := ⟨(tm - a.fr).toNat, by omega⟩
  rw [Int.toNat_natCast] at ht1
  have hi : i < (fldL a f).length := by omega
  have hf : f = 1 ∨ f = 2 ∨ f = 3 := by omega
  have hfit : fitB (gB (fldL a f) i) := by
    refine (?_ : ∀ b ∈ fldL a f, fitB b) _ (List.mem_of_getElem? (gB_get hi))
    rcases hf with rfl | rfl | rfl
    · exact h.bs
    · exact h.bi
    · exact h.bo
  have hlen := h.ns
  have hlo := h.no
  have hfx : fixS a (f : Int) (a.fr + (i : Int)) b = match narB (gB (fldL a f) i) b with
    | none => (acZ, 48)
    | some d => (setL a f ((fldL a f).set i d), 0) := by
    unfold fixS
    rw [if_neg (by simp [chk_ok.2 h]), if_neg (by omega), show ((f : Nat) : Int).toNat = f by omega, if_neg (by omega), show (a.fr + (i : Int) - a.fr).toNat = i by omega]
    cases narB (gB (fldL a f) i) b <;> rfl
  have hz : (a.fr + (i : Int) - a.fr).toNat = i := by omega
  have hplace : ∀ s x y, HiA a a.ins.length s x y → inB (gB (fldL a f) i) (nth3 f s x y i) := fun s x y hh => fld_hi h hf hi hh
  by_cases hm : valB (meetB (gB (fldL a f) i) b)
  · left
    have hn := narB_of hfit.val hb.val hm
    rw [hn] at hfx
    have hdf : fitB (meetB (gB (fldL a f) i) b) := meet_fit hfit hm
    have hd : ∀ v, inB (meetB (gB (fldL a f) i) b) v ↔ inB (gB (fldL a f) i) v ∧ inB b v := fun v => by
      simp only [inB, meetB]; omega
    generalize meetB (gB (fldL a f) i) b = d at *
    refine ⟨setL a f ((fldL a f).set i d), hfx, ?_, ?_, ?_, ?_⟩
    · rcases hf with rfl | rfl | rfl
      · exact ⟨h.n1, h.n2, h.no, by simp [setL, fldL, h.ns], h.f0, h.f1, set_fitB h.bs hdf, h.bi, h.bo⟩
      · refine ⟨?_, ?_, ?_, ?_, h.f0, ?_, h.bs, set_fitB h.bi hdf, h.bo⟩ <;> simp only [setL, fldL, if_true, if_false, List.length_set, reduceCtorEq, Nat.reduceEqDiff]
        · exact h.n1
        · exact h.n2
        · exact h.no
        · exact h.ns
        · exact h.f1
      · exact ⟨h.n1, h.n2, by simp [setL, fldL, h.no], h.ns, h.f0, h.f1, h.bs, h.bi, set_fitB h.bo hdf⟩
    · rcases hf with rfl | rfl | rfl <;> simp [setL, fldL]
    · rcases hf with rfl | rfl | rfl <;> simp [setL]
    · intro s x y
      have con : ∀ {S X Y : Nat → Bd}, Hi S X Y a.ins.length s x y ↔ (∀ j, j < a.ins.length + 1 → inB (S j) (s j)) ∧ (∀ j, j < a.ins.length → inB (X j) (x j)) ∧ (∀ j, j < a.ins.length → inB (Y j) (y j)) ∧ ∀ j, j < a.ins.length → s (j + 1) = s j + x j - y j :=
        ⟨fun h => ⟨fun j hj => h.st j (by omega), h.ins, h.outs, h.bal⟩, fun h => ⟨fun j hj => h.1 j (by omega), h.2.1, h.2.2.1, h.2.2.2⟩⟩
      unfold HiA
      rw [con, con]
      simp only [RpH, hz, Int.toNat_natCast]
      rcases hf with rfl | rfl | rfl
      · have := set_inB (s := s) hi h.ns hd
        simp only [setL, fldL, nth3, if_true] at this ⊢
        rw [this]
        constructor
        · rintro ⟨⟨h1, h2⟩, h3⟩; exact ⟨⟨h1, h3⟩, h2⟩
        · rintro ⟨⟨h1, h3⟩, h2⟩; exact ⟨⟨h1, h2⟩, h3⟩
      · have := set_inB (s := x) hi rfl hd
        simp only [setL, fldL, nth3, if_true, if_false, Nat.reduceEqDiff] at this ⊢
        rw [this]
        constructor
        · rintro ⟨h0, ⟨h1, h2⟩, h3⟩; exact ⟨⟨h0, h1, h3⟩, h2⟩
        · rintro ⟨⟨h0, h1, h3⟩, h2⟩; exact ⟨h0, ⟨h1, h2⟩, h3⟩
      · have := set_inB (s := y) hi h.no hd
        simp only [setL, fldL, nth3, if_false, Nat.reduceEqDiff] at this ⊢
        rw [this]
        constructor
        · rintro ⟨h0, h00, ⟨h1, h2⟩, h3⟩; exact ⟨⟨h0, h00, h1, h3⟩, h2⟩
        · rintro ⟨⟨h0, h00, h1, h3⟩, h2⟩; exact ⟨h0, h00, ⟨h1, h2⟩, h3⟩
  · right
    have hn : narB (gB (fldL a f) i) b = none := by
      cases hc : narB (gB (fldL a f) i) b with
      | none => rfl
      | some d =>
        obtain ⟨rfl, _, _, h4⟩ := narB_some hc
        exact absurd h4 hm
    rw [hn] at hfx
    refine ⟨hfx, fun s x y hh hq => hm ?_⟩
    have h1 := hplace s x y hh
    simp only [RpH, hz, Int.toNat_natCast] at hq
    simp only [inB, valB, meetB] at *
    omega
/-- The reports of account i, one behind the other. -/
def curL (i : Int) : List Rp → Ac → Ac × Int × Int
  | [], a => (a, 0, 0)
  | r :: l, a => if r.ac = i then (if (fixS a r.fd r.tm r.b).2 = 0 then curL i l (fixS a r.fd r.tm r.b).1 else (acZ, r.nu, 48)) else curL i l a
theorem RpA.congr {a c : Ac} {r : Rp} (h : RpA a r) (ha : AcOK a) (hc : AcOK c) (hf : c.fr = a.fr) (hl : c.ins.length = a.ins.length) : RpA c r := by
  have e : (fldL c r.fd.toNat).length = (fldL a r.fd.toNat).length := by
    have h1 := ha.ns
    have h2 := ha.no
    have h3 := hc.ns
    have h4 := hc.no
    unfold fldL
    split
    · omega
    · split <;> omega
  exact ⟨h.fd, by rw [hf]; exact h.t0, by rw [hf, e]; exact h.t1, h.b⟩
theorem cur_law {i : Int} : ∀ (l : List Rp) {a : Ac}, AcOK a → (∀ r ∈ l, r.ac = i → RpA a r) →
    (∃ c, curL i l a = (c, 0, 0) ∧ AcOK c ∧ c.ins.length = a.ins.length ∧ c.fr = a.fr ∧ ∀ s x y, HiA c a.ins.length s x y ↔ HiA a a.ins.length s x y ∧ ∀ r ∈ l, r.ac = i → RpH a r s x y) ∨
    (∃ r ∈ l, r.ac = i ∧ curL i l a = (acZ, r.nu, 48)) ∧ ∀ s x y, HiA a a.ins.length s x y → ¬ ∀ r ∈ l, r.ac = i → RpH a r s x y
  | [], a, h, _ => .inl ⟨a, rfl, h, rfl, rfl, fun s x y => by simp⟩
  | r :: l, a, h, hr => by
    by_cases e : r.ac = i
    · rcases fix_lawB h (hr r (by simp) e) with ⟨c, c1, c2, c3, c4, c5⟩ | ⟨c1, c5⟩
      · have hr2 : ∀ q ∈ l, q.ac = i → RpA c q := fun q hq he => (hr q (by simp [hq]) he).congr h c2 c4 c3
        have hH : ∀ (q : Rp) s x y, RpH c q s x y ↔ RpH a q s x y := fun q s x y => by simp only [RpH, c4]
        rcases cur_law l c2 hr2 with ⟨d, d1, d2, d3, d4, d5⟩ | ⟨⟨q, q1, q2, q3⟩, d5⟩
        · refine .inl ⟨d, ?_, d2, by rw [d3, c3], by rw [d4, c4], fun s x y => ?_⟩
          · rw [curL, if_pos e, c1, if_pos rfl]; exact d1
          · rw [← c3, d5, c3, c5]
            simp only [hH, List.mem_cons, forall_eq_or_imp]
            constructor
            · rintro ⟨⟨h1, h2⟩, h3⟩; exact ⟨h1, fun _ => h2, h3⟩
            · rintro ⟨h1, h2, h3⟩; exact ⟨⟨h1, h2 e⟩, h3⟩
        · refine .inr ⟨⟨q, by simp [q1], q2, ?_⟩, fun s x y hh hall => ?_⟩
          · rw [curL, if_pos e, c1, if_pos rfl]; exact q3
          · rw [c3] at d5
            refine d5 s x y ((c5 s x y).2 ⟨hh, hall r (by simp) e⟩) fun q hq he => (hH q s x y).2 (hall q (by simp [hq]) he)
      · refine .inr ⟨⟨r, by simp, e, ?_⟩, fun s x y hh hall => c5 s x y hh (hall r (by simp) e)⟩
        rw [curL, if_pos e, c1, if_neg (by simp)]
    · rcases cur_law l h (fun q hq => hr q (by simp [hq])) with ⟨d, d1, d2, d3, d4, d5⟩ | ⟨⟨q, q1, q2, q3⟩, d5⟩
      · refine .inl ⟨d, by rw [curL, if_neg e]; exact d1, d2, d3, d4, fun s x y => ?_⟩
        rw [d5]
        simp only [List.mem_cons, forall_eq_or_imp, e, false_implies, true_and]
      · refine .inr ⟨⟨q, by simp [q1], q2, by rw [curL, if_neg e]; exact q3⟩, fun s x y hh hall => d5 s x y hh fun q hq => hall q (by simp [hq])⟩
abbrev nus (l : List Rp) : List Int := l.map Rp.nu
theorem nus_get {l : List Rp} {i : Nat} {x : Int} : (nus l)[i]? = some x ↔ ∃ r, l[i]? = some r ∧ r.nu = x := by
  rw [List.getElem?_map]
  cases l[i]? <;> simp
theorem pw_get {l : List Rp} (h : l.Pairwise fun a b => a.nu < b.nu) {i j : Nat} (hij : i < j) {x y : Rp} (hx : l[i]? = some x) (hy : l[j]? = some y) : x.nu < y.nu := by
  obtain ⟨h1, rfl⟩ := List.getElem?_eq_some_iff.1 hx
  obtain ⟨h2, rfl⟩ := List.getElem?_eq_some_iff.1 hy
  exact List.pairwise_iff_getElem.1 h i j h1 h2 hij
theorem pw_asc {l : List Rp} (h : l.Pairwise fun a b => a.nu < b.nu) : Asc (nus l) := fun i j hij x y hx hy => by
  obtain ⟨a, ha, rfl⟩ := nus_get.1 hx
  obtain ⟨b, hb, rfl⟩ := nus_get.1 hy
  exact Int.le_of_lt (pw_get h hij ha hb)
/-- Two lists whose numbers ascend are equal if they have the same members. -/
theorem pw_ext : ∀ {l m : List Rp}, (l.Pairwise fun a b => a.nu < b.nu) → (m.Pairwise fun a b => a.nu < b.nu) → (∀ r, r ∈ l ↔ r ∈ m) → l = m
  | [], [], _, _, _ => rfl
  | [], y :: m, _, _, h => by have := (h y).2 (by simp); simp at this
  | x :: l, [], _, _, h => by have := (h x).1 (by simp); simp at this
  | x :: l, y :: m, hl, hm, h => by
    rw [List.pairwise_cons] at hl hm
    have e : x = y := by
      have h1 := (h x).1 (by simp)
      have h2 := (h y).2 (by simp)
      simp only [List.mem_cons] at h1 h2
      rcases h1 with h1 | h1
      · exact h1
      · rcases h2 with h2 | h2
        · exact h2.symm
        · have := hl.1 y h2
          have := hm.1 x h1
          omega
    subst e
    rw [pw_ext hl.2 hm.2 fun r => ?_]
    have h1 := h r
    simp only [List.mem_cons] at h1
    constructor
    · intro hr
      rcases h1.1 (.inr hr) with e | e
      · subst e; have := hl.1 r hr; omega
      · exact e
    · intro hr
      rcases h1.2 (.inr hr) with e | e
      · subst e; have := hm.1 r hr; omega
      · exact e
def bkZ : Bk := ⟨[], []⟩
/-- A report is filed. -/
def fileS (B : Bk) (r : Rp) : Bk × Int :=
  if (nus B.rp)[bsI (nus B.rp) r.nu]? = some r.nu then (if gR B.rp (bsI (nus B.rp) r.nu) = r then (B, 0) else (bkZ, 46))
  else if B.rp.length = 4096 then (bkZ, 10) else (⟨B.op, B.rp.take (bsI (nus B.rp) r.nu) ++ r :: B.rp.drop (bsI (nus B.rp) r.nu)⟩, 0)
theorem file_new {B : Bk} (h : BkOK B) {r : Rp} (hr : RpOK B.op r) (hn : ∀ q ∈ B.rp, q.nu ≠ r.nu) (hl : B.rp.length < 4096) :
    ∃ l, fileS B r = (⟨B.op, l⟩, 0) ∧ BkOK ⟨B.op, l⟩ ∧ (∀ q, q ∈ l ↔ q ∈ B.rp ∨ q = r) ∧ l.length = B.rp.length + 1 := by
  have hA := pw_asc h.asc
  have hk := bsI_le (nus B.rp) r.nu
  have hno : ¬ (nus B.rp)[bsI (nus B.rp) r.nu]? = some r.nu := by
    rw [bsI_mem _ _ hA]
    intro hm
    obtain ⟨q, h1, h2⟩ := List.mem_map.1 hm
    exact hn q h1 h2
  rw [List.length_map] at hk
  have lt : ∀ q ∈ B.rp.take (bsI (nus B.rp) r.nu), q.nu < r.nu := fun q hq => by
    obtain ⟨i, hi⟩ := List.getElem?_of_mem hq
    rw [List.getElem?_take] at hi
    split at hi
    · rename_i hik
      rcases Int.lt_or_le q.nu r.nu with h1 | h1
      · exact h1
      · have := bsI_le_of (nus_get.2 ⟨q, hi, rfl⟩) h1; omega
    · cases hi
  have gt : ∀ q ∈ B.rp.drop (bsI (nus B.rp) r.nu), r.nu < q.nu := fun q hq => by
    obtain ⟨i, hi⟩ := List.getElem?_of_mem hq
    rw [List.getElem?_drop] at hi
    have hne := hn q (List.mem_of_getElem? hi)
    have h0 : (bsI (nus B.rp) r.nu) < B.rp.length := by have := (List.getElem?_eq_some_iff.1 hi).1; omega
    have hat : (nus B.rp)[bsI (nus B.rp) r.nu]? = some (gR B.rp (bsI (nus B.rp) r.nu)).nu := nus_get.2 ⟨_, gR_get h0, rfl⟩
    have h1 := bsI_at hat
    rcases Nat.eq_zero_or_pos i with rfl | hpos
    · have h2 := gR_get h0
      rw [Nat.add_zero] at hi
      rw [h2] at hi
      obtain rfl := Option.some.inj hi
      omega
    · have := pw_get h.asc (show bsI (nus B.rp) r.nu < bsI (nus B.rp) r.nu + i by omega) (gR_get h0) hi
      omega
  have mem : ∀ q, q ∈ B.rp.take (bsI (nus B.rp) r.nu) ++ r :: B.rp.drop (bsI (nus B.rp) r.nu) ↔ q ∈ B.rp ∨ q = r := fun q => by
    have h1 : q ∈ B.rp ↔ q ∈ B.rp.take (bsI (nus B.rp) r.nu) ∨ q ∈ B.rp.drop (bsI (nus B.rp) r.nu) := by
      rw [← List.mem_append, List.take_append_drop]
    rw [h1]
    simp only [List.mem_append, List.mem_cons]
    constructor
    · rintro (h | h | h)
      · exact .inl (.inl h)
      · exact .inr h
      · exact .inl (.inr h)
    · rintro ((h | h) | h)
      · exact .inl h
      · exact .inr (.inr h)
      · exact .inr (.inl h)
  refine ⟨B.rp.take (bsI (nus B.rp) r.nu) ++ r :: B.rp.drop (bsI (nus B.rp) r.nu), by unfold fileS; rw [if_neg hno, if_neg (by omega)], ⟨h.n, h.ao, ?_, ?_, ?_⟩, mem, ?_⟩
  · simp; omega
  · simp only
    rw [List.pairwise_append, List.pairwise_cons]
    refine ⟨h.asc.sublist (List.take_sublist _ _), ⟨gt, h.asc.sublist (List.drop_sublist _ _)⟩, fun a ha b hb => ?_⟩
    simp only [List.mem_cons] at hb
    rcases hb with rfl | hb
    · exact lt a ha
    · have := lt a ha; have := gt b hb; omega
  · intro q hq
    rcases (mem q).1 hq with h1 | rfl
    · exact h.ro q h1
    · exact hr
  · simp; omega
theorem file_old {B : Bk} (h : BkOK B) {r : Rp} (hr : r ∈ B.rp) : fileS B r = (B, 0) := by
  have hA := pw_asc h.asc
  have hm : (nus B.rp)[bsI (nus B.rp) r.nu]? = some r.nu := (bsI_mem _ _ hA).2 (List.mem_map_of_mem hr)
  obtain ⟨q, h1, h2⟩ := nus_get.1 hm
  obtain ⟨j, hj⟩ := List.getElem?_of_mem hr
  have e : q = r := by
    rcases Nat.lt_trichotomy (bsI (nus B.rp) r.nu) j with h3 | h3 | h3
    · have := pw_get h.asc h3 h1 hj; omega
    · rw [h3, hj] at h1; exact (Option.some.inj h1).symm
    · have := pw_get h.asc h3 hj h1; omega
  unfold fileS
  have hlt : bsI (nus B.rp) r.nu < B.rp.length := (List.getElem?_eq_some_iff.1 h1).1
  rw [gR_get hlt] at h1
  rw [if_pos hm, if_pos (by rw [Option.some.inj h1]; exact e)]
/-- Whatever is filed: the book stays valid, and holds nothing else. -/
theorem file_any {B : Bk} (h : BkOK B) {r : Rp} (hr : RpOK B.op r) (h0 : (fileS B r).2 = 0) : BkOK (fileS B r).1 ∧ (fileS B r).1.op = B.op ∧ ∀ q, q ∈ (fileS B r).1.rp ↔ q ∈ B.rp ∨ q = r := by
  by_cases hm : r.nu ∈ nus B.rp
  · have hA := pw_asc h.asc
    have h1 := (bsI_mem _ _ hA).2 hm
    unfold fileS at h0 ⊢
    rw [if_pos h1] at h0 ⊢
    split at h0
    · rename_i h2
      rw [if_pos h2]
      refine ⟨h, rfl, fun q => ⟨.inl, fun hq => hq.elim id fun e => ?_⟩⟩
      subst e
      obtain ⟨a, ha, _⟩ := nus_get.1 h1
      have hlt := (List.getElem?_eq_some_iff.1 ha).1
      have := List.mem_of_getElem? (gR_get hlt)
      rwa [h2] at this
    · cases h0
  · by_cases hl : B.rp.length = 4096
    · unfold fileS at h0
      rw [if_neg (fun h1 => hm ((bsI_mem _ _ (pw_asc h.asc)).1 h1)), if_pos hl] at h0
      cases h0
    · obtain ⟨l, e, h1, h2, _⟩ := file_new h hr (fun q hq e => hm (List.mem_map.2 ⟨q, hq, e⟩)) (by have := h.m; omega)
      rw [e]
      exact ⟨h1, rfl, h2⟩
theorem tgt_lens {a b : Ac} (hl : a.ins.length = b.ins.length) : (tgt a).st.length = (tgt b).st.length ∧ (tgt a).ins.length = (tgt b).ins.length ∧ (tgt a).outs.length = (tgt b).outs.length :=
  ⟨by simp only [tgt, mkL_length, hl], by simp only [tgt, mkL_length, hl], by simp only [tgt, mkL_length, hl]⟩
section
variable {a b : Ac} (ha : AcOK a) (hb : AcOK b) (va : VD a.st a.ins a.outs a.ins.length) (vb : VD b.st b.ins b.outs b.ins.length) (hl : a.ins.length = b.ins.length) (hs : ∀ s x y, HiA a a.ins.length s x y → HiA b a.ins.length s x y)
include ha hb va vb hl hs
theorem fld_sub {f i : Nat} (hf : f = 1 ∨ f = 2 ∨ f = 3) (hi : i < (fldL a f).length) : (gB (fldL (tgt b) f) i).lo ≤ (gB (fldL (tgt a) f) i).lo ∧ (gB (fldL (tgt a) f) i).hi ≤ (gB (fldL (tgt b) f) i).hi := by
  have h1 := ha.ns
  have h2 := ha.no
  have h3 := hb.ns
  have h4 := hb.no
  have hi2 : i < (fldL b f).length := by
    rcases hf with rfl | rfl | rfl <;> simp only [fldL, if_true, if_false, Nat.reduceEqDiff] at hi ⊢ <;> omega
  have hv := fld_val ha va hf hi
  have sub : ∀ v, inB (gB (fldL (tgt a) f) i) v → inB (gB (fldL (tgt b) f) i) v := fun v hh => by
    obtain ⟨s, x, y, e1, e2⟩ := (fld_iff ha va hf hi v).1 hh
    exact (fld_iff hb vb hf hi2 v).2 ⟨s, x, y, by rw [← hl]; exact hs s x y e1, e2⟩
  exact ⟨(sub _ ⟨Int.le_refl _, hv⟩).1, (sub _ ⟨hv, Int.le_refl _⟩).2⟩
theorem tgt_incl : (∀ i, i < (tgt a).st.length → (gB (tgt b).st i).lo ≤ (gB (tgt a).st i).lo ∧ (gB (tgt a).st i).hi ≤ (gB (tgt b).st i).hi) ∧
    (∀ i, i < (tgt a).ins.length → (gB (tgt b).ins i).lo ≤ (gB (tgt a).ins i).lo ∧ (gB (tgt a).ins i).hi ≤ (gB (tgt b).ins i).hi) ∧
    (∀ i, i < (tgt a).outs.length → (gB (tgt b).outs i).lo ≤ (gB (tgt a).outs i).lo ∧ (gB (tgt a).outs i).hi ≤ (gB (tgt b).outs i).hi) := by
  have h1 := ha.ns
  have h2 := ha.no
  refine ⟨fun i hi => ?_, fun i hi => ?_, fun i hi => ?_⟩
  · have := fld_sub ha hb va vb hl hs (f := 1) (i := i) (by omega) (by simp only [tgt, mkL_length] at hi; simp only [fldL, if_true]; omega)
    simpa only [fldL, if_true] using this
  · have := fld_sub ha hb va vb hl hs (f := 2) (i := i) (by omega) (by simp only [tgt, mkL_length] at hi; simp only [fldL, if_true, if_false, Nat.reduceEqDiff]; omega)
    simpa only [fldL, if_true, if_false, Nat.reduceEqDiff] using this
  · have := fld_sub ha hb va vb hl hs (f := 3) (i := i) (by omega) (by simp only [tgt, mkL_length] at hi; simp only [fldL, if_false, Nat.reduceEqDiff]; omega)
    simpa only [fldL, if_false, Nat.reduceEqDiff] using this
theorem wid_mono : widK (tgt a) 3 ≤ widK (tgt b) 3 := by
  obtain ⟨l1, l2, l3⟩ := tgt_lens hl
  obtain ⟨i1, i2, i3⟩ := tgt_incl ha hb va vb hl hs
  have w1 := sum_le l1 i1
  have w2 := sum_le l2 i2
  have w3 := sum_le l3 i3
  simp only [widK, if_true, show 1 ≤ 3 by omega, show 2 ≤ 3 by omega]
  omega
end
theorem sum_eq : ∀ {L M : List Bd}, L.length = M.length → (∀ i, i < L.length → (gB M i).lo ≤ (gB L i).lo ∧ (gB L i).hi ≤ (gB M i).hi) → widL L = widL M → L = M
  | [], [], _, _, _ => rfl
  | [], _ :: _, h, _, _ => by simp at h
  | _ :: _, [], h, _, _ => by simp at h
  | b :: L, c :: M, h, hh, hw => by
    have h0 := hh 0 (by simp)
    have hr : ∀ i, i < L.length → (gB M i).lo ≤ (gB L i).lo ∧ (gB L i).hi ≤ (gB M i).hi := fun i hi => by
      have := hh (i + 1) (by simp; omega)
      simpa [gB] using this
    have hl : L.length = M.length := by simpa using h
    have h1 := sum_le hl hr
    simp only [gB, List.getD_cons_zero] at h0
    simp only [widL, List.map_cons, List.sum_cons] at h1 hw
    have e : b = c := by rw [bd_eq]; omega
    have h2 : widL L = widL M := by simp only [widL]; omega
    rw [e, sum_eq hl hr h2]
theorem wid_eq {a b : Ac} (ha : AcOK a) (hb : AcOK b) (va : VD a.st a.ins a.outs a.ins.length) (vb : VD b.st b.ins b.outs b.ins.length) (hl : a.ins.length = b.ins.length) (hs : ∀ s x y, HiA a a.ins.length s x y → HiA b a.ins.length s x y)
    (hw : widK (tgt a) 3 = widK (tgt b) 3) : (tgt a).st = (tgt b).st ∧ (tgt a).ins = (tgt b).ins ∧ (tgt a).outs = (tgt b).outs := by
  obtain ⟨l1, l2, l3⟩ := tgt_lens hl
  obtain ⟨i1, i2, i3⟩ := tgt_incl ha hb va vb hl hs
  have w1 := sum_le l1 i1
  have w2 := sum_le l2 i2
  have w3 := sum_le l3 i3
  simp only [widK, if_true, show 1 ≤ 3 by omega, show 2 ≤ 3 by omega] at hw
  exact ⟨sum_eq l1 i1 (by omega), sum_eq l2 i2 (by omega), sum_eq l3 i3 (by omega)⟩
/-- how many bounds differ -/
def difN (L M : List Bd) : Nat := (L.zip M).countP fun p => decide (p.1 ≠ p.2)
theorem difN_take {L M : List Bd} {k : Nat} {b c : Bd} (hL : L[k]? = some b) (hM : M[k]? = some c) : difN (L.take (k + 1)) (M.take (k + 1)) = difN (L.take k) (M.take k) + (if b ≠ c then 1 else 0) := by
  have h1 : (L.take k).length = k := by have := (List.getElem?_eq_some_iff.1 hL).1; simp; omega
  have h2 : (M.take k).length = k := by have := (List.getElem?_eq_some_iff.1 hM).1; simp; omega
  unfold difN
  rw [List.take_add_one, List.take_add_one, hL, hM]
  simp only [Option.toList_some]
  rw [List.zip_append (by omega), List.countP_append]
  congr 1
  simp only [List.zip_cons_cons, List.zip_nil_right, List.countP_cons, List.countP_nil]
  by_cases e : b = c <;> simp [e]
theorem difN_zero : ∀ {L M : List Bd}, L.length = M.length → (difN L M = 0 ↔ L = M)
  | [], [], _ => by simp [difN]
  | [], _ :: _, h => by simp at h
  | _ :: _, [], h => by simp at h
  | b :: L, c :: M, h => by
    have ih := difN_zero (L := L) (M := M) (by simpa using h)
    simp only [difN, List.zip_cons_cons, List.countP_cons] at ih ⊢
    by_cases e : b = c
    · subst e; simp only [ne_eq, not_true_eq_false, decide_false, Bool.false_eq_true, if_false, Nat.add_zero, List.cons.injEq, true_and]; exact ih
    · simp [e]
theorem difN_le (L M : List Bd) : difN L M ≤ L.length := by
  have h1 : difN L M ≤ (L.zip M).length := List.countP_le_length
  rw [List.length_zip] at h1
  omega
/-- An account of a book with its reports; what is left of it. -/
def curS (B : Bk) (i : Nat) : Ac × Int × Int := curL i B.rp (gA B.op i)
def tigS (B : Bk) (i : Nat) : Ac × Int := if (curS B i).2.2 ≠ 0 then (acZ, (curS B i).2.2) else tightS (curS B i).1
theorem BkOK.acc {B : Bk} (h : BkOK B) {i : Nat} (hi : i < B.op.length) : AcOK (gA B.op i) := h.ao _ (List.mem_of_getElem? (gA_get hi))
theorem BkOK.rpa {B : Bk} (h : BkOK B) {i : Nat} : ∀ r ∈ B.rp, r.ac = (i : Int) → RpA (gA B.op i) r := fun r hr e => by
  have := (h.ro r hr).a
  rw [e, Int.toNat_natCast] at this
  exact this
/-- **What is known of an account, where the reports are right about a history.** -/
theorem tig_law {B : Bk} (h : BkOK B) {i : Nat} (hi : i < B.op.length) {s x y : Nat → Int} (hh : HiA (gA B.op i) (gA B.op i).ins.length s x y) (hr : ∀ r ∈ B.rp, r.ac = (i : Int) → RpH (gA B.op i) r s x y) :
    ∃ c, curS B i = (c, 0, 0) ∧ tigS B i = (tgt c, 0) ∧ AcOK c ∧ VD c.st c.ins c.outs c.ins.length ∧ c.ins.length = (gA B.op i).ins.length ∧ c.fr = (gA B.op i).fr ∧ HiA c c.ins.length s x y ∧
      ∀ s x y, HiA c c.ins.length s x y ↔ HiA (gA B.op i) (gA B.op i).ins.length s x y ∧ ∀ r ∈ B.rp, r.ac = (i : Int) → RpH (gA B.op i) r s x y := by
  rcases cur_law (i := (i : Int)) B.rp (h.acc hi) h.rpa with ⟨c, c1, c2, c3, c4, c5⟩ | ⟨_, h2⟩
  · have hc : HiA c c.ins.length s x y := by rw [c3]; exact (c5 s x y).2 ⟨hh, hr⟩
    refine ⟨c, c1, ?_, c2, hc.vd, c3, c4, hc, fun s x y => by rw [c3]; exact c5 s x y⟩
    unfold tigS
    rw [show curS B i = (c, 0, 0) from c1, if_neg (by simp)]
    exact tightS_yes c2 hc.vd
  · exact absurd hr (h2 s x y hh)
theorem BkOK.sub {B : Bk} (h : BkOK B) {l : List Rp} (hl : l.Sublist B.rp) : BkOK ⟨B.op, l⟩ :=
  ⟨h.n, h.ao, Nat.le_trans hl.length_le h.m, h.asc.sublist hl, fun r hr => h.ro r (hl.subset hr)⟩
/-- **Fewer reports never narrow more.** -/
theorem less_law {B : Bk} (h : BkOK B) {B' : Bk} (h' : BkOK B') (ho : B'.op = B.op) (hl : ∀ r ∈ B'.rp, r ∈ B.rp) {i : Nat} (hi : i < B.op.length) {s x y : Nat → Int} (hh : HiA (gA B.op i) (gA B.op i).ins.length s x y) (hr : ∀ r ∈ B.rp, r.ac = (i : Int) → RpH (gA B.op i) r s x y) :
    ∃ c d, tigS B i = (tgt c, 0) ∧ tigS B' i = (tgt d, 0) ∧ AcOK c ∧ AcOK d ∧ VD c.st c.ins c.outs c.ins.length ∧ VD d.st d.ins d.outs d.ins.length ∧ c.ins.length = d.ins.length ∧ c.ins.length = (gA B.op i).ins.length ∧ c.fr = d.fr ∧
      HiA c c.ins.length s x y ∧ HiA d d.ins.length s x y ∧ ∀ s x y, HiA c c.ins.length s x y → HiA d c.ins.length s x y := by
  obtain ⟨c, c1, c2, c3, c4, c5, c6, c7, c8⟩ := tig_law h hi hh hr
  have hh' : HiA (gA B'.op i) (gA B'.op i).ins.length s x y := by rw [ho]; exact hh
  obtain ⟨d, d1, d2, d3, d4, d5, d6, d7, d8⟩ := tig_law h' (by rw [ho]; exact hi) hh' (fun r hm e => by rw [ho]; exact hr r (hl r hm) e)
  rw [ho] at d5 d6 d8
  refine ⟨c, d, c2, d2, c3, d3, c4, d4, by rw [c5, d5], c5, by rw [c6, d6], c7, d7, fun s x y hc => ?_⟩
  have h1 := (c8 s x y).1 hc
  have h2 := (d8 s x y).2 ⟨h1.1, fun r hm e => h1.2 r (hl r hm) e⟩
  rw [d5] at h2
  rw [c5]
  exact h2
theorem tgt_hold {c : Ac} (h : AcOK c) {S I O : List Int} (hc : HiA c c.ins.length (fun i => S.getD i 0) (fun i => I.getD i 0) (fun i => O.getD i 0)) (h1 : S.length = c.ins.length + 1) (h2 : I.length = c.ins.length) (h3 : O.length = c.ins.length) : holdsS (tgt c) S I O = true :=
  holdsS_iff.2 ⟨tgt_ok h hc.vd, by rw [tgt_len, h1], by rw [tgt_len, h2], by rw [tgt_len, h3], by rw [tgt_len]; exact hc.tgt⟩
/-- How many bounds of an account a report makes narrower. -/
def chgS (B : Bk) (r : Rp) : Int × Int :=
  if (fileS B r).2 ≠ 0 then (0, (fileS B r).2)
  else if (tigS B r.ac.toNat).2 ≠ 0 then (0, (tigS B r.ac.toNat).2)
  else if (tigS (fileS B r).1 r.ac.toNat).2 ≠ 0 then (0, (tigS (fileS B r).1 r.ac.toNat).2)
  else ((difN (tigS B r.ac.toNat).1.st (tigS (fileS B r).1 r.ac.toNat).1.st : Int) + difN (tigS B r.ac.toNat).1.ins (tigS (fileS B r).1 r.ac.toNat).1.ins + difN (tigS B r.ac.toNat).1.outs (tigS (fileS B r).1 r.ac.toNat).1.outs, 0)
/-- **A report that says nothing new changes nothing; one that does makes a bound narrower.** -/
theorem chg_law {B : Bk} (h : BkOK B) {r : Rp} (hr : RpOK B.op r) (hn : ∀ q ∈ B.rp, q.nu ≠ r.nu) (hlen : B.rp.length < 4096) {i : Nat} (hi : r.ac = (i : Int)) {s x y : Nat → Int} (hh : HiA (gA B.op i) (gA B.op i).ins.length s x y)
    (hq : ∀ q ∈ B.rp, q.ac = (i : Int) → RpH (gA B.op i) q s x y) (hrr : RpH (gA B.op i) r s x y) :
    ∃ B' a z, fileS B r = (B', 0) ∧ BkOK B' ∧ B'.op = B.op ∧ tigS B i = (a, 0) ∧ tigS B' i = (z, 0) ∧ AcOK a ∧ AcOK z ∧ chgS B r = ((difN a.st z.st : Int) + difN a.ins z.ins + difN a.outs z.outs, 0) ∧
      a.st.length = z.st.length ∧ a.ins.length = z.ins.length ∧ a.outs.length = z.outs.length ∧ widK z 3 ≤ widK a 3 ∧ (((difN a.st z.st : Int) + difN a.ins z.ins + difN a.outs z.outs = 0) ↔ a = z) ∧ (a = z ↔ widK a 3 = widK z 3) := by
  obtain ⟨l, f1, f2, f3, f4⟩ := file_new h hr hn hlen
  have hil : i < B.op.length := by have := hr.a1; omega
  have hall : ∀ q ∈ l, q.ac = (i : Int) → RpH (gA B.op i) q s x y := fun q hm e => by
    rcases (f3 q).1 hm with h1 | rfl
    · exact hq q h1 e
    · exact hrr
  obtain ⟨d, c, d1, c1, d2, c2, d3, c3, e1, e2, e3, h1, h2, h3⟩ := less_law (B := ⟨B.op, l⟩) f2 h rfl (fun q hm => (f3 q).2 (.inl hm)) (i := i) hil hh hall
  obtain ⟨l1, l2, l3⟩ := tgt_lens e1
  have hw := wid_mono d2 c2 d3 c3 e1 h3
  have hfr : (tgt c).fr = (tgt d).fr := e3.symm
  refine ⟨⟨B.op, l⟩, tgt c, tgt d, f1, f2, rfl, c1, d1, tgt_ok c2 c3, tgt_ok d2 d3, ?_, l1.symm, l2.symm, l3.symm, hw, ?_, ?_⟩
  · unfold chgS
    rw [f1, if_neg (by simp), hi, Int.toNat_natCast, c1, if_neg (by simp), d1, if_neg (by simp)]
  · constructor
    · intro h0
      have z1 := (difN_zero l1.symm).1 (by omega)
      have z2 := (difN_zero l2.symm).1 (by omega)
      have z3 := (difN_zero l3.symm).1 (by omega)
      exact ac_ext hfr z1 z2 z3
    · intro h0
      rw [h0]
      have z1 := (difN_zero (L := (tgt d).st) rfl).2 rfl
      have z2 := (difN_zero (L := (tgt d).ins) rfl).2 rfl
      have z3 := (difN_zero (L := (tgt d).outs) rfl).2 rfl
      omega
  · constructor
    · intro h0; rw [h0]
    · intro h0
      obtain ⟨z1, z2, z3⟩ := wid_eq d2 c2 d3 c3 e1 h3 h0.symm
      exact ac_ext hfr z1.symm z2.symm z3.symm
/-- A report, and then one at the same place that excludes it. -/
theorem fix_twice {a : Ac} (h : AcOK a) {r q : Rp} (hr : RpA a r) (hq : RpA a q) (hf : q.fd = r.fd) (ht : q.tm = r.tm) (hx : r.b.hi < q.b.lo) {c : Ac} (hc : fixS a r.fd r.tm r.b = (c, 0)) : fixS c q.fd q.tm q.b = (acZ, 48) := by
  rcases fix_lawB h hr with ⟨c', e1, e2, e3, e4, e5⟩ | ⟨e1, _⟩
  · rw [e1] at hc
    obtain rfl := (Prod.mk.inj hc).1
    rcases fix_lawB e2 (hq.congr h e2 e4 e3) with ⟨d, d1, d2, d3, d4, d5⟩ | ⟨d1, _⟩
    · exfalso
      obtain ⟨nu, ac, fd, tm, b⟩ := r
      obtain ⟨nu2, ac2, fd2, tm2, b2⟩ := q
      simp only at hf ht hx e1 d1
      subst hf ht
      obtain ⟨hf0, ht0, ht1, hb⟩ := hr
      simp only at hf0 ht0 ht1 hb
      obtain ⟨f, rfl⟩ : ∃ f : Nat, fd2 = f := ⟨fd2.toNat, by omega⟩
      obtain ⟨i, rfl⟩ : ∃ i : Nat, tm2 = a.fr + i := ⟨(tm2 - a.fr).toNat, by omega⟩
      rw [Int.toNat_natCast] at ht1
      have hi : i < (fldL a f).length := by omega
      have hz : (a.fr + (i : Int) - a.fr).toNat = i := by omega
      unfold fixS at e1 d1
      rw [if_neg (by simp [chk_ok.2 h]), if_neg (by omega), Int.toNat_natCast, if_neg (by omega), hz] at e1
      rw [if_neg (by simp [chk_ok.2 e2]), if_neg (by omega), Int.toNat_natCast, e4, hz] at d1
      split at e1
      · cases e1
      · rename_i m hm
        obtain ⟨hc1, -⟩ := Prod.mk.inj e1
        have hg : gB (fldL c' f) i = m := by
          rw [← hc1]
          rcases (by omega : f = 1 ∨ f = 2 ∨ f = 3) with rfl | rfl | rfl <;> simp only [setL, fldL, if_true, if_false, Nat.reduceEqDiff] at hi ⊢ <;> rw [gB_set hi, if_pos rfl]
        split at d1
        · cases d1
        · split at d1
          · cases d1
          · rename_i m2 hm2
            rw [hg] at hm2
            obtain ⟨hm, _, _, _⟩ := narB_some hm
            obtain ⟨hm2, _, _, hv⟩ := narB_some hm2
            subst hm
            rw [hm2] at hv
            simp only [valB, meetB] at hv
            omega
    · exact d1
  · rw [e1] at hc; cases hc
/-- **Two reports that exclude each other, in whatever order they are filed: the second number is named.** -/
theorem contra_law {op : List Ac} (h : BkOK ⟨op, []⟩) {r q : Rp} (hr : RpOK op r) (hq : RpOK op q) (hn : r.nu = 1) (hn2 : q.nu = 2) {i : Nat} (hi : r.ac = (i : Int)) (hi2 : q.ac = (i : Int)) (hf : q.fd = r.fd) (ht : q.tm = r.tm) (hx : r.b.hi < q.b.lo)
    {s x y : Nat → Int} (hh : HiA (gA op i) (gA op i).ins.length s x y) (hrr : RpH (gA op i) r s x y) :
    (∃ B1, fileS ⟨op, []⟩ r = (B1, 0) ∧ BkOK B1 ∧ B1.op = op ∧ fileS B1 q = (⟨op, [r, q]⟩, 0)) ∧ (∃ B1, fileS ⟨op, []⟩ q = (B1, 0) ∧ BkOK B1 ∧ B1.op = op ∧ fileS B1 r = (⟨op, [r, q]⟩, 0)) ∧ BkOK ⟨op, [r, q]⟩ ∧
      curS ⟨op, [r, q]⟩ i = (acZ, 2, 48) ∧ tigS ⟨op, [r, q]⟩ i = (acZ, 48) := by
  have hB : BkOK ⟨op, [r, q]⟩ := ⟨h.n, h.ao, by simp, by simp; omega, fun p hp => by
    simp only [List.mem_cons, List.not_mem_nil, or_false] at hp
    rcases hp with rfl | rfl
    · exact hr
    · exact hq⟩
  have two : ∀ {u v : Rp}, RpOK op u → RpOK op v → u.nu ≠ v.nu → (∀ p, p ∈ [r, q] ↔ p = u ∨ p = v) → ∃ B1, fileS ⟨op, []⟩ u = (B1, 0) ∧ BkOK B1 ∧ B1.op = op ∧ fileS B1 v = (⟨op, [r, q]⟩, 0) := fun {u v} hu hv hne hm => by
    obtain ⟨l, f1, f2, f3, f4⟩ := file_new h hu (fun p hp => by simp at hp) (by simp)
    obtain ⟨l2, g1, g2, g3, g4⟩ := file_new f2 hv (fun p hp => by
      rcases (f3 p).1 hp with h1 | rfl
      · simp at h1
      · exact hne) (by simp at f4; simp [f4])
    refine ⟨_, f1, f2, rfl, ?_⟩
    rw [g1]
    have : l2 = [r, q] := pw_ext g2.asc hB.asc fun p => by
      have h3 := g3 p
      have h4 := f3 p
      simp only [List.not_mem_nil, false_or] at h3 h4
      rw [h3, h4, hm p]
    rw [this]
  have hil : i < op.length := by have := hr.a1; omega
  have ha : AcOK (gA op i) := h.acc (i := i) hil
  have hra : RpA (gA op i) r := by have := hr.a; rw [hi, Int.toNat_natCast] at this; exact this
  have hqa : RpA (gA op i) q := by have := hq.a; rw [hi2, Int.toNat_natCast] at this; exact this
  have hcur : curS ⟨op, [r, q]⟩ i = (acZ, 2, 48) := by
    rcases fix_lawB ha hra with ⟨c, c1, c2, c3, c4, c5⟩ | ⟨_, c5⟩
    · have h2 := fix_twice ha hra hqa hf ht hx c1
      simp only [curS, curL]
      rw [if_pos hi, c1, if_pos rfl, if_pos hi2]
      simp only
      rw [h2, if_neg (by simp), hn2]
    · exact absurd hrr (c5 s x y hh)
  refine ⟨two hr hq (by omega) (by simp), two hq hr (by omega) (by simp [or_comm]), hB, hcur, ?_⟩
  unfold tigS
  rw [hcur, if_pos (by simp)]
/-- What truly passed. -/
structure Tr where
  S : List Int
  I : List Int
  O : List Int
  deriving Inhabited
def trv (t : Tr) : AV := .agg [.list 1 (ints t.S), .list 1 (ints t.I), .list 1 (ints t.O)]
def trs (l : List Tr) : List AV := l.map trv
theorem trs_length (l : List Tr) : (trs l).length = l.length := by simp [trs]
theorem trs_get (l : List Tr) (i : Nat) : (trs l)[i]? = (l[i]?).map trv := by simp [trs]
theorem trs_pur (l : List Tr) : ∀ x ∈ trs l, x.pur = true := by simp [trs, trv, go_sem, ints_pur]
theorem trs_ok (l : List Tr) : ∀ x ∈ trs l, okE 3 x := by simp [trs, trv, okE, go_sem]
def gT (l : List Tr) (i : Nat) : Tr := l.getD i default
theorem gT_get {l : List Tr} {i : Nat} (h : i < l.length) : l[i]? = some (gT l i) := by simp [gT, List.getD_eq_getElem?_getD, h]
/-- An account and what truly passed of it, as they are drawn. -/
def TrA (a : Ac) (t : Tr) : Prop := ∃ n, Drn a n t.S t.I t.O
def RpT (a : Ac) (r : Rp) (t : Tr) : Prop := RpH a r (fun i => t.S.getD i 0) (fun i => t.I.getD i 0) (fun i => t.O.getD i 0)
/-- A book whose reports are right, as it is drawn. -/
structure TrB (B : Bk) (T : List Tr) : Prop where
  ok : BkOK B
  n1 : 1 ≤ B.op.length
  n2 : B.op.length ≤ 2
  len : T.length = B.op.length
  tr : ∀ i, i < B.op.length → TrA (gA B.op i) (gT T i)
  rt : ∀ r ∈ B.rp, RpT (gA B.op r.ac.toNat) r (gT T r.ac.toNat)
  nu : ∀ r ∈ B.rp, r.nu ≤ 20
theorem TrA.hi {a : Ac} {t : Tr} (h : TrA a t) : HiA a a.ins.length (fun i => t.S.getD i 0) (fun i => t.I.getD i 0) (fun i => t.O.getD i 0) ∧ t.S.length = a.ins.length + 1 ∧ t.I.length = a.ins.length ∧ t.O.length = a.ins.length ∧ AcOK a := by
  obtain ⟨n, h⟩ := h
  obtain ⟨h1, h2⟩ := h.hi
  exact ⟨by rw [h1]; exact h2, by rw [h1]; exact h.h.ls, by rw [h1]; exact h.h.li, by rw [h1]; exact h.h.lo, h.lse.ok⟩
theorem TrB.hist {B : Bk} {T : List Tr} (h : TrB B T) {i : Nat} : ∀ r ∈ B.rp, r.ac = (i : Int) → RpT (gA B.op i) r (gT T i) := fun r hr e => by
  have := h.rt r hr
  rw [e, Int.toNat_natCast] at this
  exact this
/-- slices.overlaps of a list and an object. -/
theorem run_overlaps_list {P : Program} (w : World) (tS tR e : TypeId) (ht : P.underlying tS = some (.slice e)) (size : Nat) (hz : ∀ w, (Go.sizeOf e).run P w = .ok size w)
    (a b : Addr) (la ca lb cb : Nat) (hne : a.block ≠ b.block) (tA tB : TypeId) (kA kB : Nat)
    (hsa : w.shape? a.block = some (tA, kA)) (hsb : w.shape? b.block = some (tB, kB)) (hkA : kA ≠ 0)
    (hfb : w.frozen? b = false) (hfe : w.frozen? { block := b.block, off := kB } = false) :
    (Extern.SlicesOverlaps.overlaps #[tS, tS] #[tR] #[.slice (some a) la ca, .slice (some b) lb cb]).run P w = .ok (.bool false) w := by
  have hnb : (a.block != b.block) = true := by simpa using hne
  have hnb' : (a.block == b.block) = false := by simpa using hne
  obtain ⟨r, hr⟩ : ∃ r, Extern.SlicesOverlaps.overlaps #[tS, tS] #[tR] #[.slice (some a) la ca, .slice (some b) lb cb] = r := ⟨_, rfl⟩
  rw [hr]
  unfold Extern.SlicesOverlaps.overlaps at hr
  conv at hr => lhs; whnf
  have ht0 : P.underlying (#[tS, tS][0]) = some (.slice e) := ht
  have pb : ∀ {α : Type} (x : α) (f : α → Sem Value), (pure x : Sem α).bind f = f x := fun _ _ => rfl
  rw [← hr]
  cases kA with
  | zero => exact absurd rfl hkA
  | succ kA =>
    by_cases h0 : la = 0 ∨ lb = 0 ∨ size = 0
    · simp [Sem.run, Sem.bind, ht0, ht, pb, hz, h0]
    · cases hfa : w.frozen? a <;> cases hfa2 : w.frozen? { block := a.block, off := kA + 1 } <;>
        simp [Sem.run, Sem.bind, ht0, ht, pb, hz, h0, hnb, hnb', frozen, noView, viewAt, mayBeOne, stringish, shape, hsa, hsb, hfa, hfa2, hfb, hfe]
theorem HC_ovl_l {P : Program} {σ : St} {f : Nat} {tS tR : TypeId} (he : extOf P f = some (Extern.SlicesOverlaps.overlaps #[tS, tS] #[tR])) (ht : eltOf P tS = true)
    {es : Nat} {L : List AV} {id' g' es' off' n' c' : Nat} {o' : AObj} (hL : L ≠ []) (hes : 0 < es) (ho' : σ.ob id' = some o') (hg' : o'.g = g') (hro : o'.ro = false) (hap : o'.ap = true) :
    HC P f [.list es L, .slk id' g' es' off' n' c'] σ fun r σ' => r = .bool false ∧ σ' = σ := by
  subst hg'
  refine ⟨(run_extOf he).1, fun m S w vs hS hv => .inr ?_⟩
  obtain ⟨v1, v2, rfl⟩ : ∃ v1 v2, vs = [v1, v2] := by
    match vs, hv.1 with
    | [a, b], _ => exact ⟨a, b, rfl⟩
  have h1 := hv.2 0 _ v1 rfl rfl
  have h2 := hv.2 1 _ v2 rfl rfl
  obtain ⟨b', len', hu', rfl, hcap'⟩ := h2.of_slk
  obtain ⟨v', hm', ⟨_, hes', xs', hown', _⟩, hSb⟩ := hS.obj id' o' ho'
  rw [hu'] at hm'; obtain rfl := Option.some.inj hm'
  rcases hown'.2 with ⟨h, _⟩ | ⟨b2, len2, cap2, cur2, fr2, h, hgb2, hnc2, hcm2, hsz2, htk2, hfr2, hfr02⟩
  · cases h
  cases h
  obtain rfl := hfr02 hap
  cases h1 with
  | pure h1 =>
    cases h1 with
    | listNil => exact absurd rfl hL
    | @list _ _ b o cap ff hl' hcap hSS hc hw hvv =>
      obtain ⟨hSb1, cs, t, fr, hgb⟩ := hSS
      have hbb : b ≠ b' := fun e => (hSb b' rfl).2 hro (e ▸ hSb1)
      have hcell := hw 0 0 (by cases L with
        | nil => exact absurd rfl hL
        | cons x r => simp) hes
      have hk1 : cs.size ≠ 0 := by
        simp only [World.cell?, hgb] at hcell
        intro h0
        have : cs = #[] := Array.eq_empty_of_size_eq_zero h0
        subst this
        simp at hcell
      unfold eltOf at ht
      split at ht
      · rename_i e hue
        obtain ⟨i, hi⟩ := Option.isSome_iff_exists.1 ht
        refine ⟨.bool false, w, ?_, .bool false, σ, m, S, .bool false, rfl, ⟨rfl, rfl⟩, ?_, Ext.refl m S w, .pure (.bool false)⟩
        · rw [(run_extOf he).2]
          rw [run_overlaps_list w tS tR e hue i.size (fun w => run_sizeOf' hi w) ⟨b, o, none⟩ ⟨b', off' * es', none⟩ L.length cap n' (c' - off') hbb t o'.ty cs.size cur2.size
            (by simp [World.shape?, hgb]) (by simp [World.shape?, hgb2]) hk1 (by simp [World.frozen?, hgb2]) (by simp [World.frozen?, hgb2])]
          rfl
        · exact ⟨hS, ⟨rfl, rfl, rfl, Nat.le_refl _, fun _ _ _ => rfl, fun k o v b ho hro hm hb => .inl ⟨k, o, v, ho, hro, hm, hb⟩, fun b hb => .inl hb⟩⟩
      · cases ht
theorem cpy_sL {σ : St} {C : AV → St → Prop} {es id g off n : Nat} {l : List AV} (h : ∃ o, σ.ob id = some o ∧ o.g = g ∧ o.es = es ∧ o.ro = false ∧ off + n ≤ o.l.length ∧ C (.int .i64 (min l.length n : Nat)) (σ.put id o (o.l.take off ++ l.take n ++ o.l.drop (off + min l.length n)))) : cpyC es (.sl id g es off n) (.list es l) σ C := by
  obtain ⟨o, h⟩ := h
  exact .inr ⟨fun _ _ e => by cases e; rfl, fun _ _ _ _ _ h => (by rcases h with h | ⟨_, h⟩ <;> cases h), rfl, o, h⟩
theorem cpy_kL {σ : St} {C : AV → St → Prop} {es id g off n c : Nat} {l : List AV} (h : 0 < min l.length n ∧ ∃ o, σ.ob id = some o ∧ o.g = g ∧ o.es = es ∧ o.ro = false ∧ off ≤ o.l.length ∧ C (.int .i64 (min l.length n : Nat)) (σ.put id o (o.l.take off ++ l.take n ++ o.l.drop (off + min l.length n)))) : cpyC es (.slk id g es off n c) (.list es l) σ C := by
  obtain ⟨h0, o, h⟩ := h
  exact .inr ⟨fun _ _ e => by cases e; rfl, fun _ _ _ _ _ h => (by rcases h with h | ⟨_, h⟩ <;> cases h), rfl, h0, o, h⟩
/-- .. what is put in is a list -/
theorem hcL_slices_Insert__Report (σ : St) (id g : Nat) (L : List AV) (x : AV) (i : Nat) (hx : okE 6 x) (hob : σ.ob id = some ⟨g, 6, ty_el_Report, false, true, L⟩)
    (hid : id < σ.n) (hi : i ≤ L.length) (hl : L.length ≤ 1000000) :
    HC prog n_slices_Insert__Report [.sl id g 6 0 L.length, .int .i64 i, .list 6 [x]] σ (InsO σ id 6 ty_el_Report (L.take i ++ x :: L.drop i)) := by
  obtain ⟨ob0, n0, c0⟩ := σ
  simp only at hob hid
  by_cases h0 : i = L.length
  · subst h0
    refine HC_of_body b_slices_Insert__Report (by simp) ?_
    simp only [c_slices_Insert__Report, go_sem, Int.reduceEq, Int.reduceLT, Int.reduceLE, Int.reduceToNat, Nat.reduceLT, Nat.reduceEqDiff, Nat.reduceAdd, Nat.reduceLeDiff, Nat.reduceSub, Nat.reduceMul, ↓reduceIte, reduceCtorEq, w_app_nl]
    try simp (maxSteps := 500000) (disch := omega) only [go_sem, Int.reduceEq, Int.reduceLT, Int.reduceLE, Int.reduceToNat, Nat.reduceLT, Nat.reduceEqDiff, Nat.reduceAdd, Nat.reduceLeDiff, Nat.reduceSub, Nat.reduceMul, ↓reduceIte, reduceCtorEq, wrap_id, w_ite_ne, w_ite_lt, Nat.sub_zero, Nat.sub_self]
    refine ⟨⟨_, hob, rfl⟩, by omega, by omega, ?_, fun h => absurd h (by omega)⟩
    try simp (maxSteps := 500000) (disch := omega) only [go_sem, Int.reduceEq, Int.reduceLT, Int.reduceLE, Int.reduceToNat, Nat.reduceLT, Nat.reduceEqDiff, Nat.reduceAdd, Nat.reduceLeDiff, Nat.reduceSub, Nat.reduceMul, ↓reduceIte, reduceCtorEq, wrap_id, w_ite_ne, w_ite_lt, Nat.sub_zero, Nat.sub_self, hob]
    repeat (refine And.intro (by first | omega | (rw [mxL]; omega) | (simp [maxLen]; done) | (simp [maxLen]; omega)) ?_)
    have e : L.take L.length ++ x :: L.drop L.length = L ++ [x] := by simp
    rw [e]
    exact ⟨id, c0, by simp, .inl rfl, hid, Nat.le_refl _, upd_same _ _ _, fun k _ hk => upd_ne _ _ _ _ hk⟩
  refine HC.clip (R := fun r τ => (∃ c, r = .slk id g 6 0 (L.length + 1) c ∧ τ = ⟨upd ob0 id (some ⟨g, 6, ty_el_Report, false, true, L.take i ++ x :: L.drop i⟩), n0, c0⟩) ∨
    (r = .sl n0 c0 6 0 (L.length + 1) ∧ τ = ⟨upd ob0 n0 (some ⟨c0, 6, ty_el_Report, false, true, L.take i ++ x :: L.drop i⟩), n0 + 1, c0 + 1⟩)) (HC.slk hob rfl (by omega) rfl (fun c hc hcm => ?_) (by omega)) ?_
  · refine HC_of_body b_slices_Insert__Report (by simp) ?_
    simp only [c_slices_Insert__Report, go_sem, Int.reduceEq, Int.reduceLT, Int.reduceLE, Int.reduceToNat, Nat.reduceLT, Nat.reduceEqDiff, Nat.reduceAdd, Nat.reduceLeDiff, Nat.reduceSub, Nat.reduceMul, ↓reduceIte, reduceCtorEq, w_app_nl]
    have hne1 : ¬ ((i : Int) = (L.length : Int)) := by omega
    try simp (maxSteps := 500000) (disch := omega) only [go_sem, Int.reduceEq, Int.reduceLT, Int.reduceLE, Int.reduceToNat, Nat.reduceLT, Nat.reduceEqDiff, Nat.reduceAdd, Nat.reduceLeDiff, Nat.reduceSub, Nat.reduceMul, ↓reduceIte, reduceCtorEq, wrap_id, w_ite_ne, w_ite_lt, Nat.sub_zero, Nat.sub_self, hne1]
    refine ⟨hc, by omega, by omega, fun h => by omega, fun _ => ?_⟩
    refine cond_d (fun hgrow => ?_) (fun hroom => ?_)
    · have hcl : c = L.length := by omega
      subst hcl
      try simp (maxSteps := 500000) (disch := omega) only [go_sem, Int.reduceEq, Int.reduceLT, Int.reduceLE, Int.reduceToNat, Nat.reduceLT, Nat.reduceEqDiff, Nat.reduceAdd, Nat.reduceLeDiff, Nat.reduceSub, Nat.reduceMul, ↓reduceIte, reduceCtorEq, wrap_id, w_ite_ne, w_ite_lt, Nat.sub_zero, Nat.sub_self]
      refine ⟨by omega, by omega, by omega, fun h => by omega, fun _ => ?_⟩
      refine appz_k ?_
      have htn : ((L.length : Int) + 1 - (i : Int)).toNat = L.length + 1 - i := by omega
      try simp (maxSteps := 500000) (disch := omega) only [go_sem, Int.reduceEq, Int.reduceLT, Int.reduceLE, Int.reduceToNat, Nat.reduceLT, Nat.reduceEqDiff, Nat.reduceAdd, Nat.reduceLeDiff, Nat.reduceSub, Nat.reduceMul, ↓reduceIte, reduceCtorEq, wrap_id, w_ite_ne, w_ite_lt, Nat.sub_zero, Nat.sub_self, hob, htn]
      refine ⟨by omega, by omega, by omega, by omega, by omega, by omega, by omega, fun h => by omega, fun _ => ?_⟩
      have hn2 : ¬ n0 = id := by omega
      try simp (maxSteps := 500000) (disch := omega) only [go_sem, Int.reduceEq, Int.reduceLT, Int.reduceLE, Int.reduceToNat, Nat.reduceLT, Nat.reduceEqDiff, Nat.reduceAdd, Nat.reduceLeDiff, Nat.reduceSub, Nat.reduceMul, ↓reduceIte, reduceCtorEq, wrap_id, w_ite_ne, w_ite_lt, Nat.sub_zero, Nat.sub_self, hob]
      have hin : ((i : Int) + 1).toNat = i + 1 := by omega
      try simp (maxSteps := 500000) (disch := omega) only [go_sem, Int.reduceEq, Int.reduceLT, Int.reduceLE, Int.reduceToNat, Nat.reduceLT, Nat.reduceEqDiff, Nat.reduceAdd, Nat.reduceLeDiff, Nat.reduceSub, Nat.reduceMul, ↓reduceIte, reduceCtorEq, wrap_id, w_ite_ne, w_ite_lt, Nat.sub_zero, Nat.sub_self, hob, hin]
      refine ⟨by simp; omega, by omega, by omega, by omega, fun h => by omega, fun _ => ⟨by omega, by omega, fun h => by omega, fun _ => ?_⟩⟩
      refine cpy_sk ?_
      try simp (maxSteps := 500000) (disch := omega) only [go_sem, Int.reduceEq, Int.reduceLT, Int.reduceLE, Int.reduceToNat, Nat.reduceLT, Nat.reduceEqDiff, Nat.reduceAdd, Nat.reduceLeDiff, Nat.reduceSub, Nat.reduceMul, ↓reduceIte, reduceCtorEq, wrap_id, w_ite_ne, w_ite_lt, Nat.sub_zero, Nat.sub_self, hob]
      rw [insG1 (by omega) (by omega) (by omega)]
      refine ⟨by omega, by simp; omega, .inr ⟨by rw [show i + (L.length + 1 - i) = L.length + 1 by omega], ?_⟩⟩
      rw [insG2 (by omega) (by omega) (by omega) (by simp; omega)]
      simp only [upd_upd]
    · have hin : ((i : Int) + 1).toNat = i + 1 := by omega
      have hln : ((L.length : Int) + 1).toNat = L.length + 1 := by omega
      try simp (maxSteps := 500000) (disch := omega) only [go_sem, Int.reduceEq, Int.reduceLT, Int.reduceLE, Int.reduceToNat, Nat.reduceLT, Nat.reduceEqDiff, Nat.reduceAdd, Nat.reduceLeDiff, Nat.reduceSub, Nat.reduceMul, ↓reduceIte, reduceCtorEq, wrap_id, w_ite_ne, w_ite_lt, Nat.sub_zero, Nat.sub_self, hin, hln]
      repeat (refine And.intro (by first | omega | (rw [mxL]; omega) | (simp [maxLen]; done) | (simp [maxLen]; omega)) ?_)
      refine fun _ => ⟨by omega, by omega, by omega, fun h => by omega, fun _ => ?_⟩
      refine (HC_ovl_l (σ := ⟨ob0, n0, c0⟩) x_slices_overlaps__Report xt_slices_overlaps__Report (by simp) (by omega) hob rfl rfl rfl).mono ?_
      rintro _ _ ⟨rfl, rfl⟩
      try simp (maxSteps := 500000) (disch := omega) only [go_sem, Int.reduceEq, Int.reduceLT, Int.reduceLE, Int.reduceToNat, Nat.reduceLT, Nat.reduceEqDiff, Nat.reduceAdd, Nat.reduceLeDiff, Nat.reduceSub, Nat.reduceMul, ↓reduceIte, reduceCtorEq, wrap_id, w_ite_ne, w_ite_lt, Nat.sub_zero, Nat.sub_self, hin]
      refine ⟨by omega, by omega, by omega, fun h => by omega, fun _ => ⟨by omega, by omega, by omega, fun h => by omega, fun _ => ?_⟩⟩
      refine cpy_kk ?_
      try simp (maxSteps := 500000) (disch := omega) only [go_sem, Int.reduceEq, Int.reduceLT, Int.reduceLE, Int.reduceToNat, Nat.reduceLT, Nat.reduceEqDiff, Nat.reduceAdd, Nat.reduceLeDiff, Nat.reduceSub, Nat.reduceMul, ↓reduceIte, reduceCtorEq, wrap_id, w_ite_ne, w_ite_lt, Nat.sub_zero, Nat.sub_self, hob]
      rw [insR1 (by omega) (by omega) (by omega)]
      refine ⟨by omega, by omega, by omega, by omega, by omega, by omega, fun h => by omega, fun _ => ?_⟩
      rw [insR2 (by omega) (by omega) (by omega)]
      refine ⟨by omega, by simp; omega, c, rfl, ?_⟩
      rw [upd_upd]
  · rintro r τ (⟨c, rfl, rfl⟩ | ⟨rfl, rfl⟩)
    · refine ⟨.sl id g 6 0 (L.length + 1), upd ob0 id (some ⟨g, 6, ty_el_Report, false, true, L.take i ++ x :: L.drop i⟩), .inr ⟨id, g, 6, 0, _, c, rfl, rfl⟩, fun q o hq => ⟨o, hq, rfl, rfl, rfl, rfl, rfl, o.l.length, by simp⟩, ?_⟩
      have hlen : (L.take i ++ x :: L.drop i).length = L.length + 1 := by simp; omega
      refine ⟨id, g, by rw [hlen], .inl rfl, hid, Nat.le_refl _, upd_same _ _ _, fun k _ hk => upd_ne _ _ _ _ hk⟩
    · refine ⟨.sl n0 c0 6 0 (L.length + 1), upd ob0 n0 (some ⟨c0, 6, ty_el_Report, false, true, L.take i ++ x :: L.drop i⟩), .inl rfl, fun q o hq => ⟨o, hq, rfl, rfl, rfl, rfl, rfl, o.l.length, by simp⟩, ?_⟩
      have hlen : (L.take i ++ x :: L.drop i).length = L.length + 1 := by simp; omega
      exact ⟨n0, c0, by rw [hlen], .inr (Nat.le_refl _), Nat.lt_succ_self _, Nat.le_succ _, upd_same _ _ _, fun k hk _ => upd_ne _ _ _ _ (by simp only at hk; omega)⟩
theorem ok_revision_twin (a : Ac) (h : AcOK a) : PC prog n_revision_twin [acv a] (acv a) := by
  have h1 := h.n2
  have h2 := h.no
  have h3 := h.ns
  refine PC_of_body b_revision_twin (by simp) ?_
  simp only [c_revision_twin, go_sem, Int.reduceEq, Int.reduceLT, Int.reduceLE, Int.reduceToNat, Nat.reduceLT, Nat.reduceEqDiff, Nat.reduceAdd, Nat.reduceLeDiff, Nat.reduceSub, Nat.reduceMul, ↓reduceIte, reduceCtorEq, w_app_nl, acv]
  try simp (maxSteps := 500000) (disch := omega) only [go_sem, Int.reduceEq, Int.reduceLT, Int.reduceLE, Int.reduceToNat, Nat.reduceLT, Nat.reduceEqDiff, Nat.reduceAdd, Nat.reduceLeDiff, Nat.reduceSub, Nat.reduceMul, ↓reduceIte, reduceCtorEq, wrap_id, w_ite_ne, w_ite_lt, Nat.sub_zero, Nat.sub_self]
  refine call_pc (okl_slices_Clone__Bounds (bds a.st) (by rw [bds_length]; omega) (bds_pur _) (bds_ok _)) (by simp [go_sem, bds_pur]) ?_
  try simp (maxSteps := 500000) (disch := omega) only [go_sem, Int.reduceEq, Int.reduceLT, Int.reduceLE, Int.reduceToNat, Nat.reduceLT, Nat.reduceEqDiff, Nat.reduceAdd, Nat.reduceLeDiff, Nat.reduceSub, Nat.reduceMul, ↓reduceIte, reduceCtorEq, wrap_id, w_ite_ne, w_ite_lt, Nat.sub_zero, Nat.sub_self]
  refine call_pc (okl_slices_Clone__Bounds (bds a.ins) (by rw [bds_length]; omega) (bds_pur _) (bds_ok _)) (by simp [go_sem, bds_pur]) ?_
  try simp (maxSteps := 500000) (disch := omega) only [go_sem, Int.reduceEq, Int.reduceLT, Int.reduceLE, Int.reduceToNat, Nat.reduceLT, Nat.reduceEqDiff, Nat.reduceAdd, Nat.reduceLeDiff, Nat.reduceSub, Nat.reduceMul, ↓reduceIte, reduceCtorEq, wrap_id, w_ite_ne, w_ite_lt, Nat.sub_zero, Nat.sub_self]
  refine call_pc (okl_slices_Clone__Bounds (bds a.outs) (by rw [bds_length]; omega) (bds_pur _) (bds_ok _)) (by simp [go_sem, bds_pur]) ?_
  try simp (maxSteps := 500000) (disch := omega) only [go_sem, Int.reduceEq, Int.reduceLT, Int.reduceLE, Int.reduceToNat, Nat.reduceLT, Nat.reduceEqDiff, Nat.reduceAdd, Nat.reduceLeDiff, Nat.reduceSub, Nat.reduceMul, ↓reduceIte, reduceCtorEq, wrap_id, w_ite_ne, w_ite_lt, Nat.sub_zero, Nat.sub_self]
  exact Pub.of_eq rfl (by simp [go_sem, bds_pur])
theorem pc_ref30_Copy (a : Ac) (h : AcOK a) : PC prog n_ref30_Copy [acv a] (acv a) := by
  have h1 := h.n2
  have h2 := h.no
  have h3 := h.ns
  have h4 := h.n1
  have hc := hc_ref30_Copy St.empty a (by omega) (by omega) (by omega) (by intro e; rw [e] at h3; simp at h3) (by intro e; rw [e] at h4; simp at h4) (by intro e; rw [e] at h2; simp at h2; omega)
  refine PC_of_HC b_ref30_Copy (hc.mono ?_)
  rintro r τ ⟨o1, o2, o3, rfl, hO, -⟩
  exact Pub.ag (.cons (.pure rfl) (.cons (Pub.of_sl hO.h1 (by rw [bds_length]) (bds_pur _) (bds_ok _)) (.cons (Pub.of_sl hO.h2 (by rw [bds_length]) (bds_pur _) (bds_ok _)) (.cons (Pub.of_sl hO.h3 (by rw [bds_length]) (bds_pur _) (bds_ok _)) .nil))))
theorem ok_revision_opened (l : List Ac) (hn : l.length ≤ 16) (h : ∀ a ∈ l, AcOK a) : PC prog n_revision_opened [.list 4 (acs l)] (.int .i64 0) := by
  refine PC_of_body b_revision_opened (by simp) ?_
  simp only [c_revision_opened, go_sem, Int.reduceEq, Int.reduceLT, Int.reduceLE, Int.reduceToNat, Nat.reduceLT, Nat.reduceEqDiff, Nat.reduceAdd, Nat.reduceLeDiff, Nat.reduceSub, Nat.reduceMul, ↓reduceIte, reduceCtorEq, w_app_nl, acs_length]
  refine cond_d (fun hgt => by omega) (fun hle => ?_)
  try simp (maxSteps := 500000) (disch := omega) only [go_sem, Int.reduceEq, Int.reduceLT, Int.reduceLE, Int.reduceToNat, Nat.reduceLT, Nat.reduceEqDiff, Nat.reduceAdd, Nat.reduceLeDiff, Nat.reduceSub, Nat.reduceMul, ↓reduceIte, reduceCtorEq, wrap_id, w_ite_ne, w_ite_lt, Nat.sub_zero, Nat.sub_self, acs_length]
  refine awp_upG [2, 4, 5, 11, 12, 13, 14, 15, 16, 17, 18, 19, 20] (by kernel_rfl) l.length (fun k e σ => e 11 = .int .i64 k) ?_ ?_
  · exact (by first | ((try simp (maxSteps := 1000000) only [go_sem, Int.reduceEq, Int.reduceLT, Int.reduceLE, Int.reduceToNat, Nat.reduceLT, Nat.reduceEqDiff, Nat.reduceAdd, Nat.reduceLeDiff, Nat.reduceSub, Nat.reduceMul, ↓reduceIte, reduceCtorEq, w_app_nl]); done) | ((try simp (maxSteps := 1000000) only [go_sem, Int.reduceEq, Int.reduceLT, Int.reduceLE, Int.reduceToNat, Nat.reduceLT, Nat.reduceEqDiff, Nat.reduceAdd, Nat.reduceLeDiff, Nat.reduceSub, Nat.reduceMul, ↓reduceIte, reduceCtorEq, w_app_nl]); rfl) | ((try simp (maxSteps := 1000000) (disch := omega) only [go_sem, Int.reduceEq, Int.reduceLT, Int.reduceLE, Int.reduceToNat, Nat.reduceLT, Nat.reduceEqDiff, Nat.reduceAdd, Nat.reduceLeDiff, Nat.reduceSub, Nat.reduceMul, ↓reduceIte, reduceCtorEq, w_app_nl, wrap_id, w_ite_ne, w_ite_lt]); rfl) | (simp (maxSteps := 1000000) (disch := omega) only [go_sem, Int.reduceEq, Int.reduceLT, Int.reduceLE, Int.reduceToNat, Nat.reduceLT, Nat.reduceEqDiff, Nat.reduceAdd, Nat.reduceLeDiff, Nat.reduceSub, Nat.reduceMul, ↓reduceIte, reduceCtorEq, w_app_nl, wrap_id, w_ite_ne, w_ite_lt]; done))
  rintro k fe ob m c hk hm h11
  simp (maxSteps := 1000000) only [go_sem, Int.reduceEq, Int.reduceLT, Int.reduceLE, Int.reduceToNat, Nat.reduceLT, Nat.reduceEqDiff, Nat.reduceAdd, Nat.reduceLeDiff, Nat.reduceSub, Nat.reduceMul, ↓reduceIte, reduceCtorEq, w_app_nl] at h11
  try simp (maxSteps := 500000) (disch := omega) only [go_sem, Int.reduceEq, Int.reduceLT, Int.reduceLE, Int.reduceToNat, Nat.reduceLT, Nat.reduceEqDiff, Nat.reduceAdd, Nat.reduceLeDiff, Nat.reduceSub, Nat.reduceMul, ↓reduceIte, reduceCtorEq, wrap_id, w_ite_ne, w_ite_lt, Nat.sub_zero, Nat.sub_self, h11]
  refine cond_d (fun hlt => ?_) (fun hge => ?_)
  · have hkl : k < l.length := by omega
    have e1 := gA_get hkl
    have ha := h _ (List.mem_of_getElem? e1)
    have hC := ok_ledger_Check (gA l k) ha.l
    rw [chk_ok.2 ha] at hC
    generalize gA l k = a at *
    try simp (maxSteps := 500000) (disch := omega) only [go_sem, Int.reduceEq, Int.reduceLT, Int.reduceLE, Int.reduceToNat, Nat.reduceLT, Nat.reduceEqDiff, Nat.reduceAdd, Nat.reduceLeDiff, Nat.reduceSub, Nat.reduceMul, ↓reduceIte, reduceCtorEq, wrap_id, w_ite_ne, w_ite_lt, Nat.sub_zero, Nat.sub_self, h11, acs_length, acs_get, e1, Option.map_some, acv]
    refine ⟨by omega, by omega, ?_⟩
    simp only [acv] at hC
    refine call_pc hC (by simp [go_sem, bds_pur]) ?_
    try simp (maxSteps := 500000) (disch := omega) only [go_sem, Int.reduceEq, Int.reduceLT, Int.reduceLE, Int.reduceToNat, Nat.reduceLT, Nat.reduceEqDiff, Nat.reduceAdd, Nat.reduceLeDiff, Nat.reduceSub, Nat.reduceMul, ↓reduceIte, reduceCtorEq, wrap_id, w_ite_ne, w_ite_lt, Nat.sub_zero, Nat.sub_self, h11]
    exact up_nextG _ hkl (Nat.le_succ_of_le hm) (by first | ((try simp (maxSteps := 1000000) only [go_sem, Int.reduceEq, Int.reduceLT, Int.reduceLE, Int.reduceToNat, Nat.reduceLT, Nat.reduceEqDiff, Nat.reduceAdd, Nat.reduceLeDiff, Nat.reduceSub, Nat.reduceMul, ↓reduceIte, reduceCtorEq, w_app_nl]); done) | ((try simp (maxSteps := 1000000) only [go_sem, Int.reduceEq, Int.reduceLT, Int.reduceLE, Int.reduceToNat, Nat.reduceLT, Nat.reduceEqDiff, Nat.reduceAdd, Nat.reduceLeDiff, Nat.reduceSub, Nat.reduceMul, ↓reduceIte, reduceCtorEq, w_app_nl]); rfl) | ((try simp (maxSteps := 1000000) (disch := omega) only [go_sem, Int.reduceEq, Int.reduceLT, Int.reduceLE, Int.reduceToNat, Nat.reduceLT, Nat.reduceEqDiff, Nat.reduceAdd, Nat.reduceLeDiff, Nat.reduceSub, Nat.reduceMul, ↓reduceIte, reduceCtorEq, w_app_nl, wrap_id, w_ite_ne, w_ite_lt]); rfl) | (simp (maxSteps := 1000000) (disch := omega) only [go_sem, Int.reduceEq, Int.reduceLT, Int.reduceLE, Int.reduceToNat, Nat.reduceLT, Nat.reduceEqDiff, Nat.reduceAdd, Nat.reduceLeDiff, Nat.reduceSub, Nat.reduceMul, ↓reduceIte, reduceCtorEq, w_app_nl, wrap_id, w_ite_ne, w_ite_lt]; done))
  · try simp (maxSteps := 500000) (disch := omega) only [go_sem, Int.reduceEq, Int.reduceLT, Int.reduceLE, Int.reduceToNat, Nat.reduceLT, Nat.reduceEqDiff, Nat.reduceAdd, Nat.reduceLeDiff, Nat.reduceSub, Nat.reduceMul, ↓reduceIte, reduceCtorEq, wrap_id, w_ite_ne, w_ite_lt, Nat.sub_zero, Nat.sub_self]
    exact Pub.of_eq rfl rfl
theorem ok_revision_numbered (r : Rp) (h1 : 1 ≤ r.nu) (h2 : r.nu ≤ 1073741824) : PC prog n_revision_numbered [rpv r] (.bool true) := by
  refine PC_of_body b_revision_numbered (by simp) ?_
  simp only [c_revision_numbered, go_sem, Int.reduceEq, Int.reduceLT, Int.reduceLE, Int.reduceToNat, Nat.reduceLT, Nat.reduceEqDiff, Nat.reduceAdd, Nat.reduceLeDiff, Nat.reduceSub, Nat.reduceMul, ↓reduceIte, reduceCtorEq, w_app_nl, rpv]
  try simp (maxSteps := 500000) (disch := omega) only [go_sem, Int.reduceEq, Int.reduceLT, Int.reduceLE, Int.reduceToNat, Nat.reduceLT, Nat.reduceEqDiff, Nat.reduceAdd, Nat.reduceLeDiff, Nat.reduceSub, Nat.reduceMul, ↓reduceIte, reduceCtorEq, wrap_id, w_ite_ne, w_ite_lt, Nat.sub_zero, Nat.sub_self, h1, h2, decide_true]
  exact Pub.of_eq rfl rfl
theorem fld_len {a : Ac} (h : AcOK a) {f : Int} (hf : f = 1 ∨ f = 2 ∨ f = 3) : ((fldL a f.toNat).length : Int) = if f = 1 then (a.ins.length : Int) + 1 else a.ins.length := by
  have h1 := h.ns
  have h2 := h.no
  rcases hf with rfl | rfl | rfl <;> simp [fldL] <;> omega
theorem ok_revision_report (op : List Ac) (r : Rp) (hop : ∀ a ∈ op, AcOK a) (h : RpOK op r) : PC prog n_revision_report [.list 4 (acs op), rpv r] (.int .i64 0) := by
  obtain ⟨i, hi⟩ : ∃ i : Nat, r.ac = i := ⟨r.ac.toNat, by have := h.a0; omega⟩
  have hil : i < op.length := by have := h.a1; omega
  have e1 := gA_get hil
  have ha := hop _ (List.mem_of_getElem? e1)
  have hr := h.a
  rw [hi, Int.toNat_natCast] at hr
  have h1 := ha.n1
  have h2 := ha.n2
  have h3 := ha.f0
  have h4 := ha.f1
  have hfl := fld_len ha hr.fd
  have t0 := hr.t0
  have t1 := hr.t1
  rw [hfl] at t1
  obtain ⟨b0, b1, b2⟩ := hr.b
  simp only [mxV] at b2
  have hfd := hr.fd
  generalize gA op i = a at *
  obtain ⟨nu, ac, fd, tm, b⟩ := r
  simp only at hi t0 t1 b0 b1 b2 hfd
  subst hi
  refine PC_of_body b_revision_report (by simp) ?_
  simp only [c_revision_report, go_sem, Int.reduceEq, Int.reduceLT, Int.reduceLE, Int.reduceToNat, Nat.reduceLT, Nat.reduceEqDiff, Nat.reduceAdd, Nat.reduceLeDiff, Nat.reduceSub, Nat.reduceMul, ↓reduceIte, reduceCtorEq, w_app_nl, rpv]
  have q1 : ¬ ((i : Int) < 0) := by omega
  have q2 : ¬ ((op.length : Int) ≤ (i : Int)) := by omega
  have q3 : ¬ (fd < 1) := by omega
  have q4 : ¬ (3 < fd) := by omega
  have q5 : ¬ (tm < a.fr) := by omega
  have q6 : ¬ (b.lo < 0) := by omega
  have q7 : ¬ (274877906944 < b.hi) := by omega
  have q8 : ¬ (b.hi < b.lo) := by omega
  try simp (maxSteps := 500000) (disch := omega) only [go_sem, Int.reduceEq, Int.reduceLT, Int.reduceLE, Int.reduceToNat, Nat.reduceLT, Nat.reduceEqDiff, Nat.reduceAdd, Nat.reduceLeDiff, Nat.reduceSub, Nat.reduceMul, ↓reduceIte, reduceCtorEq, wrap_id, w_ite_ne, w_ite_lt, Nat.sub_zero, Nat.sub_self, acs_length, acs_get, e1, Option.map_some, acv, bds_length, q1, q2, q3, q4, decide_false]
  refine ⟨by omega, by omega, ?_⟩
  refine cond_d (fun hf1 => ?_) (fun hf1 => ?_)
  · rw [if_pos hf1] at t1
    have q9 : ¬ (a.fr + (a.ins.length : Int) - 1 + 1 < tm) := by omega
    try simp (maxSteps := 500000) (disch := omega) only [go_sem, Int.reduceEq, Int.reduceLT, Int.reduceLE, Int.reduceToNat, Nat.reduceLT, Nat.reduceEqDiff, Nat.reduceAdd, Nat.reduceLeDiff, Nat.reduceSub, Nat.reduceMul, ↓reduceIte, reduceCtorEq, wrap_id, w_ite_ne, w_ite_lt, Nat.sub_zero, Nat.sub_self, q5, q6, q7, q8, q9, decide_false]
    exact Pub.of_eq rfl rfl
  · rw [if_neg hf1] at t1
    have q9 : ¬ (a.fr + (a.ins.length : Int) - 1 < tm) := by omega
    try simp (maxSteps := 500000) (disch := omega) only [go_sem, Int.reduceEq, Int.reduceLT, Int.reduceLE, Int.reduceToNat, Nat.reduceLT, Nat.reduceEqDiff, Nat.reduceAdd, Nat.reduceLeDiff, Nat.reduceSub, Nat.reduceMul, ↓reduceIte, reduceCtorEq, wrap_id, w_ite_ne, w_ite_lt, Nat.sub_zero, Nat.sub_self, q5, q6, q7, q8, q9, decide_false]
    exact Pub.of_eq rfl rfl
theorem ok_revision_Check (B : Bk) (h : BkOK B) : PC prog n_revision_Check [bkv B] (.int .i64 0) := by
  have hm := h.m
  have hO := ok_revision_opened B.op h.n h.ao
  refine PC_of_body b_revision_Check (by simp) ?_
  simp only [c_revision_Check, go_sem, Int.reduceEq, Int.reduceLT, Int.reduceLE, Int.reduceToNat, Nat.reduceLT, Nat.reduceEqDiff, Nat.reduceAdd, Nat.reduceLeDiff, Nat.reduceSub, Nat.reduceMul, ↓reduceIte, reduceCtorEq, w_app_nl, bkv]
  refine call_pc hO (by simp [go_sem, acs_pur]) ?_
  try simp (maxSteps := 500000) (disch := omega) only [go_sem, Int.reduceEq, Int.reduceLT, Int.reduceLE, Int.reduceToNat, Nat.reduceLT, Nat.reduceEqDiff, Nat.reduceAdd, Nat.reduceLeDiff, Nat.reduceSub, Nat.reduceMul, ↓reduceIte, reduceCtorEq, wrap_id, w_ite_ne, w_ite_lt, Nat.sub_zero, Nat.sub_self, rps_length]
  refine cond_d (fun hgt => by omega) (fun hle => ?_)
  try simp (maxSteps := 500000) (disch := omega) only [go_sem, Int.reduceEq, Int.reduceLT, Int.reduceLE, Int.reduceToNat, Nat.reduceLT, Nat.reduceEqDiff, Nat.reduceAdd, Nat.reduceLeDiff, Nat.reduceSub, Nat.reduceMul, ↓reduceIte, reduceCtorEq, wrap_id, w_ite_ne, w_ite_lt, Nat.sub_zero, Nat.sub_self, rps_length]
  refine awp_upG [2, 4, 5, 6, 20, 21, 22, 23, 24, 25, 26, 27, 28, 29, 30, 31, 32, 33, 34, 35, 36, 37, 38, 39, 40, 41, 42, 43, 44, 45, 46, 47, 48, 49] (by kernel_rfl) B.rp.length (fun k e σ => e 20 = .int .i64 k ∧ σ.ob 0 = some ⟨0, 2, 30, false, true, [.agg [.list 4 (acs B.op), .list 6 (rps B.rp)]]⟩) ?_ ?_
  · exact ⟨(by first | ((try simp (maxSteps := 1000000) only [go_sem, Int.reduceEq, Int.reduceLT, Int.reduceLE, Int.reduceToNat, Nat.reduceLT, Nat.reduceEqDiff, Nat.reduceAdd, Nat.reduceLeDiff, Nat.reduceSub, Nat.reduceMul, ↓reduceIte, reduceCtorEq, w_app_nl]); done) | ((try simp (maxSteps := 1000000) only [go_sem, Int.reduceEq, Int.reduceLT, Int.reduceLE, Int.reduceToNat, Nat.reduceLT, Nat.reduceEqDiff, Nat.reduceAdd, Nat.reduceLeDiff, Nat.reduceSub, Nat.reduceMul, ↓reduceIte, reduceCtorEq, w_app_nl]); rfl) | ((try simp (maxSteps := 1000000) (disch := omega) only [go_sem, Int.reduceEq, Int.reduceLT, Int.reduceLE, Int.reduceToNat, Nat.reduceLT, Nat.reduceEqDiff, Nat.reduceAdd, Nat.reduceLeDiff, Nat.reduceSub, Nat.reduceMul, ↓reduceIte, reduceCtorEq, w_app_nl, wrap_id, w_ite_ne, w_ite_lt]); rfl) | (simp (maxSteps := 1000000) (disch := omega) only [go_sem, Int.reduceEq, Int.reduceLT, Int.reduceLE, Int.reduceToNat, Nat.reduceLT, Nat.reduceEqDiff, Nat.reduceAdd, Nat.reduceLeDiff, Nat.reduceSub, Nat.reduceMul, ↓reduceIte, reduceCtorEq, w_app_nl, wrap_id, w_ite_ne, w_ite_lt]; done)), by try simp (maxSteps := 500000) (disch := omega) only [go_sem, Int.reduceEq, Int.reduceLT, Int.reduceLE, Int.reduceToNat, Nat.reduceLT, Nat.reduceEqDiff, Nat.reduceAdd, Nat.reduceLeDiff, Nat.reduceSub, Nat.reduceMul, ↓reduceIte, reduceCtorEq, wrap_id, w_ite_ne, w_ite_lt, Nat.sub_zero, Nat.sub_self]⟩
  rintro k fe ob m c hk hm2 ⟨h20, u0⟩
  simp (maxSteps := 1000000) only [go_sem, Int.reduceEq, Int.reduceLT, Int.reduceLE, Int.reduceToNat, Nat.reduceLT, Nat.reduceEqDiff, Nat.reduceAdd, Nat.reduceLeDiff, Nat.reduceSub, Nat.reduceMul, ↓reduceIte, reduceCtorEq, w_app_nl] at h20 u0 hm2
  try simp (maxSteps := 500000) (disch := omega) only [go_sem, Int.reduceEq, Int.reduceLT, Int.reduceLE, Int.reduceToNat, Nat.reduceLT, Nat.reduceEqDiff, Nat.reduceAdd, Nat.reduceLeDiff, Nat.reduceSub, Nat.reduceMul, ↓reduceIte, reduceCtorEq, wrap_id, w_ite_ne, w_ite_lt, Nat.sub_zero, Nat.sub_self, h20]
  refine cond_d (fun hlt => ?_) (fun hge => ?_)
  · have hkl : k < B.rp.length := by omega
    have e1 := gR_get hkl
    have hr := h.ro _ (List.mem_of_getElem? e1)
    have hN := ok_revision_numbered (gR B.rp k) hr.n1 hr.n2
    have hR := ok_revision_report B.op (gR B.rp k) h.ao hr
    have z0 : ¬ 0 = m := by omega
    simp only [rpv] at hN hR
    try simp (maxSteps := 500000) (disch := omega) only [go_sem, Int.reduceEq, Int.reduceLT, Int.reduceLE, Int.reduceToNat, Nat.reduceLT, Nat.reduceEqDiff, Nat.reduceAdd, Nat.reduceLeDiff, Nat.reduceSub, Nat.reduceMul, ↓reduceIte, reduceCtorEq, wrap_id, w_ite_ne, w_ite_lt, Nat.sub_zero, Nat.sub_self, h20, rps_length, rps_get, e1, Option.map_some, rpv]
    refine ⟨by omega, by omega, ?_⟩
    refine call_pc hN (by simp [go_sem]) ?_
    try simp (maxSteps := 500000) (disch := omega) only [go_sem, Int.reduceEq, Int.reduceLT, Int.reduceLE, Int.reduceToNat, Nat.reduceLT, Nat.reduceEqDiff, Nat.reduceAdd, Nat.reduceLeDiff, Nat.reduceSub, Nat.reduceMul, ↓reduceIte, reduceCtorEq, wrap_id, w_ite_ne, w_ite_lt, Nat.sub_zero, Nat.sub_self]
    rcases Nat.eq_zero_or_pos k with rfl | hk0
    · try simp (maxSteps := 500000) (disch := omega) only [go_sem, Int.reduceEq, Int.reduceLT, Int.reduceLE, Int.reduceToNat, Nat.reduceLT, Nat.reduceEqDiff, Nat.reduceAdd, Nat.reduceLeDiff, Nat.reduceSub, Nat.reduceMul, ↓reduceIte, reduceCtorEq, wrap_id, w_ite_ne, w_ite_lt, Nat.sub_zero, Nat.sub_self, z0, u0]
      refine call_pc hR (by simp [go_sem, acs_pur]) ?_
      try simp (maxSteps := 500000) (disch := omega) only [go_sem, Int.reduceEq, Int.reduceLT, Int.reduceLE, Int.reduceToNat, Nat.reduceLT, Nat.reduceEqDiff, Nat.reduceAdd, Nat.reduceLeDiff, Nat.reduceSub, Nat.reduceMul, ↓reduceIte, reduceCtorEq, wrap_id, w_ite_ne, w_ite_lt, Nat.sub_zero, Nat.sub_self, h20]
      refine up_nextG (m + 1) hkl (by omega) ⟨(by first | ((try simp (maxSteps := 1000000) only [go_sem, Int.reduceEq, Int.reduceLT, Int.reduceLE, Int.reduceToNat, Nat.reduceLT, Nat.reduceEqDiff, Nat.reduceAdd, Nat.reduceLeDiff, Nat.reduceSub, Nat.reduceMul, ↓reduceIte, reduceCtorEq, w_app_nl]); done) | ((try simp (maxSteps := 1000000) only [go_sem, Int.reduceEq, Int.reduceLT, Int.reduceLE, Int.reduceToNat, Nat.reduceLT, Nat.reduceEqDiff, Nat.reduceAdd, Nat.reduceLeDiff, Nat.reduceSub, Nat.reduceMul, ↓reduceIte, reduceCtorEq, w_app_nl]); rfl) | ((try simp (maxSteps := 1000000) (disch := omega) only [go_sem, Int.reduceEq, Int.reduceLT, Int.reduceLE, Int.reduceToNat, Nat.reduceLT, Nat.reduceEqDiff, Nat.reduceAdd, Nat.reduceLeDiff, Nat.reduceSub, Nat.reduceMul, ↓reduceIte, reduceCtorEq, w_app_nl, wrap_id, w_ite_ne, w_ite_lt]); rfl) | (simp (maxSteps := 1000000) (disch := omega) only [go_sem, Int.reduceEq, Int.reduceLT, Int.reduceLE, Int.reduceToNat, Nat.reduceLT, Nat.reduceEqDiff, Nat.reduceAdd, Nat.reduceLeDiff, Nat.reduceSub, Nat.reduceMul, ↓reduceIte, reduceCtorEq, w_app_nl, wrap_id, w_ite_ne, w_ite_lt]; done)), ?_⟩
      try simp (maxSteps := 500000) (disch := omega) only [go_sem, Int.reduceEq, Int.reduceLT, Int.reduceLE, Int.reduceToNat, Nat.reduceLT, Nat.reduceEqDiff, Nat.reduceAdd, Nat.reduceLeDiff, Nat.reduceSub, Nat.reduceMul, ↓reduceIte, reduceCtorEq, wrap_id, w_ite_ne, w_ite_lt, Nat.sub_zero, Nat.sub_self, St.trunc, z0, u0]
    · have e2 := gR_get (l := B.rp) (i := k - 1) (by omega)
      have hlt2 := pw_get h.asc (show k - 1 < k by omega) e2 e1
      have q1 : (0 : Int) < (k : Int) := by omega
      have q2 : ((k : Int) - 1).toNat = k - 1 := by omega
      have q3 : ¬ (gR B.rp k).nu ≤ (gR B.rp (k - 1)).nu := by omega
      try simp (maxSteps := 500000) (disch := omega) only [go_sem, Int.reduceEq, Int.reduceLT, Int.reduceLE, Int.reduceToNat, Nat.reduceLT, Nat.reduceEqDiff, Nat.reduceAdd, Nat.reduceLeDiff, Nat.reduceSub, Nat.reduceMul, ↓reduceIte, reduceCtorEq, wrap_id, w_ite_ne, w_ite_lt, Nat.sub_zero, Nat.sub_self, z0, u0, q1, decide_true, q2, rps_length, rps_get, e2, Option.map_some, rpv, q3, decide_false]
      refine ⟨by omega, by omega, ?_⟩
      refine call_pc hR (by simp [go_sem, acs_pur]) ?_
      try simp (maxSteps := 500000) (disch := omega) only [go_sem, Int.reduceEq, Int.reduceLT, Int.reduceLE, Int.reduceToNat, Nat.reduceLT, Nat.reduceEqDiff, Nat.reduceAdd, Nat.reduceLeDiff, Nat.reduceSub, Nat.reduceMul, ↓reduceIte, reduceCtorEq, wrap_id, w_ite_ne, w_ite_lt, Nat.sub_zero, Nat.sub_self, h20]
      refine up_nextG (m + 1) hkl (by omega) ⟨(by first | ((try simp (maxSteps := 1000000) only [go_sem, Int.reduceEq, Int.reduceLT, Int.reduceLE, Int.reduceToNat, Nat.reduceLT, Nat.reduceEqDiff, Nat.reduceAdd, Nat.reduceLeDiff, Nat.reduceSub, Nat.reduceMul, ↓reduceIte, reduceCtorEq, w_app_nl]); done) | ((try simp (maxSteps := 1000000) only [go_sem, Int.reduceEq, Int.reduceLT, Int.reduceLE, Int.reduceToNat, Nat.reduceLT, Nat.reduceEqDiff, Nat.reduceAdd, Nat.reduceLeDiff, Nat.reduceSub, Nat.reduceMul, ↓reduceIte, reduceCtorEq, w_app_nl]); rfl) | ((try simp (maxSteps := 1000000) (disch := omega) only [go_sem, Int.reduceEq, Int.reduceLT, Int.reduceLE, Int.reduceToNat, Nat.reduceLT, Nat.reduceEqDiff, Nat.reduceAdd, Nat.reduceLeDiff, Nat.reduceSub, Nat.reduceMul, ↓reduceIte, reduceCtorEq, w_app_nl, wrap_id, w_ite_ne, w_ite_lt]); rfl) | (simp (maxSteps := 1000000) (disch := omega) only [go_sem, Int.reduceEq, Int.reduceLT, Int.reduceLE, Int.reduceToNat, Nat.reduceLT, Nat.reduceEqDiff, Nat.reduceAdd, Nat.reduceLeDiff, Nat.reduceSub, Nat.reduceMul, ↓reduceIte, reduceCtorEq, w_app_nl, wrap_id, w_ite_ne, w_ite_lt]; done)), ?_⟩
      try simp (maxSteps := 500000) (disch := omega) only [go_sem, Int.reduceEq, Int.reduceLT, Int.reduceLE, Int.reduceToNat, Nat.reduceLT, Nat.reduceEqDiff, Nat.reduceAdd, Nat.reduceLeDiff, Nat.reduceSub, Nat.reduceMul, ↓reduceIte, reduceCtorEq, wrap_id, w_ite_ne, w_ite_lt, Nat.sub_zero, Nat.sub_self, St.trunc, z0, u0]
  · try simp (maxSteps := 500000) (disch := omega) only [go_sem, Int.reduceEq, Int.reduceLT, Int.reduceLE, Int.reduceToNat, Nat.reduceLT, Nat.reduceEqDiff, Nat.reduceAdd, Nat.reduceLeDiff, Nat.reduceSub, Nat.reduceMul, ↓reduceIte, reduceCtorEq, wrap_id, w_ite_ne, w_ite_lt, Nat.sub_zero, Nat.sub_self]
    exact Pub.of_eq rfl rfl
theorem ok_revision_File_1 (r : Rp) : PC prog n_revision_File_1 [rpv r] (.int .i64 r.nu) := by
  refine PC_of_body b_revision_File_1 (by simp) ?_
  simp only [c_revision_File_1, go_sem, Int.reduceEq, Int.reduceLT, Int.reduceLE, Int.reduceToNat, Nat.reduceLT, Nat.reduceEqDiff, Nat.reduceAdd, Nat.reduceLeDiff, Nat.reduceSub, Nat.reduceMul, ↓reduceIte, reduceCtorEq, w_app_nl, rpv]
  try simp (maxSteps := 500000) (disch := omega) only [go_sem, Int.reduceEq, Int.reduceLT, Int.reduceLE, Int.reduceToNat, Nat.reduceLT, Nat.reduceEqDiff, Nat.reduceAdd, Nat.reduceLeDiff, Nat.reduceSub, Nat.reduceMul, ↓reduceIte, reduceCtorEq, wrap_id, w_ite_ne, w_ite_lt, Nat.sub_zero, Nat.sub_self]
  exact Pub.of_eq rfl rfl
theorem ok_revision_place_1__Report (x : Int) (h : Rp) (hh : -4611686018427387904 ≤ h.nu - x ∧ h.nu - x ≤ 4611686018427387904) : PC prog n_revision_place_1__Report [rpv h, .int .i64 x, .rptr 1 [.func n_revision_File_1 []] 0 0] (.int .i64 (h.nu - x)) := by
  refine PC_of_body b_revision_place_1__Report (by simp) ?_
  simp only [c_revision_place_1__Report, go_sem, Int.reduceEq, Int.reduceLT, Int.reduceLE, Int.reduceToNat, Nat.reduceLT, Nat.reduceEqDiff, Nat.reduceAdd, Nat.reduceLeDiff, Nat.reduceSub, Nat.reduceMul, ↓reduceIte, reduceCtorEq, w_app_nl, rpv]
  try simp (maxSteps := 500000) (disch := omega) only [go_sem, Int.reduceEq, Int.reduceLT, Int.reduceLE, Int.reduceToNat, Nat.reduceLT, Nat.reduceEqDiff, Nat.reduceAdd, Nat.reduceLeDiff, Nat.reduceSub, Nat.reduceMul, ↓reduceIte, reduceCtorEq, wrap_id, w_ite_ne, w_ite_lt, Nat.sub_zero, Nat.sub_self]
  refine call_pc (ok_revision_File_1 h) (by simp [go_sem, rpv]) ?_
  try simp (maxSteps := 500000) (disch := omega) only [go_sem, Int.reduceEq, Int.reduceLT, Int.reduceLE, Int.reduceToNat, Nat.reduceLT, Nat.reduceEqDiff, Nat.reduceAdd, Nat.reduceLeDiff, Nat.reduceSub, Nat.reduceMul, ↓reduceIte, reduceCtorEq, wrap_id, w_ite_ne, w_ite_lt, Nat.sub_zero, Nat.sub_self]
  exact Pub.of_eq rfl rfl
theorem hc_slices_BinarySearchFunc__int (σ : St) (l : List Rp) (x : Int) (f : Nat) (caps : List AV) (hl : l.length ≤ 4611686018427387904) (hs : Asc (l.map Rp.nu))
    (hcb : ∀ h ∈ l, ∀ τ : St, τ.n = σ.n → (∀ k, k < σ.n → τ.ob k = σ.ob k) → HC prog f (rpv h :: .int .i64 x :: caps) τ (fun r τ' => r = .int .i64 (h.nu - x) ∧ τ' = τ)) :
    HC prog n_slices_BinarySearchFunc__int [.list 6 (rps l), .int .i64 x, .func f caps] σ (fun r τ => r = .tuple [.int .i64 (bsI (l.map Rp.nu) x), .bool (decide ((l.map Rp.nu)[bsI (l.map Rp.nu) x]? = some x))] ∧ τ.n = σ.n ∧ ∀ k, k < σ.n → τ.ob k = σ.ob k) := by
  obtain ⟨L, hL⟩ : ∃ L, L = l.map Rp.nu := ⟨_, rfl⟩
  have hLl : L.length = l.length := by simp [hL]
  rw [← hL] at hs ⊢
  refine HC_of_body b_slices_BinarySearchFunc__int (by simp) ?_
  simp only [c_slices_BinarySearchFunc__int, go_sem, Int.reduceEq, Int.reduceLT, Int.reduceLE, Int.reduceToNat, Nat.reduceLT, Nat.reduceEqDiff, Nat.reduceAdd, Nat.reduceLeDiff, Nat.reduceSub, Nat.reduceMul, ↓reduceIte, reduceCtorEq, w_app_nl, rps_length]
  refine awp_loopF [9, 10, 11, 15, 16, 17, 18, 19, 20, 21, 22, 23, 24, 25, 26, 27, 28, 29, 30, 31, 32, 33, 34] (by kernel_rfl) (fun k e τ => (∀ k, k < σ.n → τ.ob k = σ.ob k) ∧ ∃ i j : Nat, e 9 = .int .i64 i ∧ e 10 = .int .i64 j ∧ i ≤ j ∧ j ≤ l.length ∧ k = j - i ∧ (∀ k, k < i → ∀ y, L[k]? = some y → y < x) ∧ (∀ k, j ≤ k → ∀ y, L[k]? = some y → x ≤ y)) l.length ?_ ?_
  · exact ⟨fun _ _ => rfl, 0, l.length, (by first | ((try simp (maxSteps := 1000000) only [go_sem, Int.reduceEq, Int.reduceLT, Int.reduceLE, Int.reduceToNat, Nat.reduceLT, Nat.reduceEqDiff, Nat.reduceAdd, Nat.reduceLeDiff, Nat.reduceSub, Nat.reduceMul, ↓reduceIte, reduceCtorEq, w_app_nl]); done) | ((try simp (maxSteps := 1000000) only [go_sem, Int.reduceEq, Int.reduceLT, Int.reduceLE, Int.reduceToNat, Nat.reduceLT, Nat.reduceEqDiff, Nat.reduceAdd, Nat.reduceLeDiff, Nat.reduceSub, Nat.reduceMul, ↓reduceIte, reduceCtorEq, w_app_nl]); rfl) | ((try simp (maxSteps := 1000000) (disch := omega) only [go_sem, Int.reduceEq, Int.reduceLT, Int.reduceLE, Int.reduceToNat, Nat.reduceLT, Nat.reduceEqDiff, Nat.reduceAdd, Nat.reduceLeDiff, Nat.reduceSub, Nat.reduceMul, ↓reduceIte, reduceCtorEq, w_app_nl, wrap_id, w_ite_ne, w_ite_lt]); rfl) | (simp (maxSteps := 1000000) (disch := omega) only [go_sem, Int.reduceEq, Int.reduceLT, Int.reduceLE, Int.reduceToNat, Nat.reduceLT, Nat.reduceEqDiff, Nat.reduceAdd, Nat.reduceLeDiff, Nat.reduceSub, Nat.reduceMul, ↓reduceIte, reduceCtorEq, w_app_nl, wrap_id, w_ite_ne, w_ite_lt]; done)), (by first | ((try simp (maxSteps := 1000000) only [go_sem, Int.reduceEq, Int.reduceLT, Int.reduceLE, Int.reduceToNat, Nat.reduceLT, Nat.reduceEqDiff, Nat.reduceAdd, Nat.reduceLeDiff, Nat.reduceSub, Nat.reduceMul, ↓reduceIte, reduceCtorEq, w_app_nl]); done) | ((try simp (maxSteps := 1000000) only [go_sem, Int.reduceEq, Int.reduceLT, Int.reduceLE, Int.reduceToNat, Nat.reduceLT, Nat.reduceEqDiff, Nat.reduceAdd, Nat.reduceLeDiff, Nat.reduceSub, Nat.reduceMul, ↓reduceIte, reduceCtorEq, w_app_nl]); rfl) | ((try simp (maxSteps := 1000000) (disch := omega) only [go_sem, Int.reduceEq, Int.reduceLT, Int.reduceLE, Int.reduceToNat, Nat.reduceLT, Nat.reduceEqDiff, Nat.reduceAdd, Nat.reduceLeDiff, Nat.reduceSub, Nat.reduceMul, ↓reduceIte, reduceCtorEq, w_app_nl, wrap_id, w_ite_ne, w_ite_lt]); rfl) | (simp (maxSteps := 1000000) (disch := omega) only [go_sem, Int.reduceEq, Int.reduceLT, Int.reduceLE, Int.reduceToNat, Nat.reduceLT, Nat.reduceEqDiff, Nat.reduceAdd, Nat.reduceLeDiff, Nat.reduceSub, Nat.reduceMul, ↓reduceIte, reduceCtorEq, w_app_nl, wrap_id, w_ite_ne, w_ite_lt]; done)), by omega, by omega, by omega, fun k hk => by omega, fun k hk y hy => by have := (List.getElem?_eq_some_iff.1 hy).1; omega⟩
  · rintro r fe ob c ⟨hτ, i, j, h9, h10, hij, hjl, rfl, hlo, hhi⟩
    simp (maxSteps := 1000000) only [go_sem, Int.reduceEq, Int.reduceLT, Int.reduceLE, Int.reduceToNat, Nat.reduceLT, Nat.reduceEqDiff, Nat.reduceAdd, Nat.reduceLeDiff, Nat.reduceSub, Nat.reduceMul, ↓reduceIte, reduceCtorEq, w_app_nl] at h9 h10 hτ
    try simp (maxSteps := 500000) (disch := omega) only [go_sem, Int.reduceEq, Int.reduceLT, Int.reduceLE, Int.reduceToNat, Nat.reduceLT, Nat.reduceEqDiff, Nat.reduceAdd, Nat.reduceLeDiff, Nat.reduceSub, Nat.reduceMul, ↓reduceIte, reduceCtorEq, wrap_id, w_ite_ne, w_ite_lt, Nat.sub_zero, Nat.sub_self, h9, h10]
    refine cond_d (fun hlt => ?_) (fun hge => ?_)
    · have hij2 : i < j := by omega
      try simp (maxSteps := 500000) (disch := omega) only [go_sem, Int.reduceEq, Int.reduceLT, Int.reduceLE, Int.reduceToNat, Nat.reduceLT, Nat.reduceEqDiff, Nat.reduceAdd, Nat.reduceLeDiff, Nat.reduceSub, Nat.reduceMul, ↓reduceIte, reduceCtorEq, wrap_id, w_ite_ne, w_ite_lt, Nat.sub_zero, Nat.sub_self, h9, h10, wrap_u64, bit_half, Option.some.injEq, exists_eq_left']
      generalize hm : (i + j) / 2 = m
      have hmi : ((i : Int) + j) / 2 = (m : Int) := by omega
      have hg : l[m]? = some l[m] := List.getElem?_eq_getElem (by omega)
      try simp (maxSteps := 500000) (disch := omega) only [go_sem, Int.reduceEq, Int.reduceLT, Int.reduceLE, Int.reduceToNat, Nat.reduceLT, Nat.reduceEqDiff, Nat.reduceAdd, Nat.reduceLeDiff, Nat.reduceSub, Nat.reduceMul, ↓reduceIte, reduceCtorEq, wrap_id, w_ite_ne, w_ite_lt, Nat.sub_zero, Nat.sub_self, hmi, h9, h10, rps_get, rps_length, hg, Option.map_some, rpv]
      repeat (refine And.intro (by first | omega | (rw [mxL]; omega) | (simp [maxLen]; done) | (simp [maxLen]; omega)) ?_)
      refine (hcb l[m] (List.getElem_mem _) ⟨ob, σ.n, c⟩ rfl hτ).mono ?_
      rintro _ _ ⟨rfl, rfl⟩
      have hgm : L[m]? = some l[m].nu := by simp [hL, hg]
      generalize l[m] = q at *
      try simp (maxSteps := 500000) (disch := omega) only [go_sem, Int.reduceEq, Int.reduceLT, Int.reduceLE, Int.reduceToNat, Nat.reduceLT, Nat.reduceEqDiff, Nat.reduceAdd, Nat.reduceLeDiff, Nat.reduceSub, Nat.reduceMul, ↓reduceIte, reduceCtorEq, wrap_id, w_ite_ne, w_ite_lt, Nat.sub_zero, Nat.sub_self, h9, h10]
      refine cond_d (fun hlt => ?_) (fun hge => ?_)
      · try simp (maxSteps := 500000) (disch := omega) only [go_sem, Int.reduceEq, Int.reduceLT, Int.reduceLE, Int.reduceToNat, Nat.reduceLT, Nat.reduceEqDiff, Nat.reduceAdd, Nat.reduceLeDiff, Nat.reduceSub, Nat.reduceMul, ↓reduceIte, reduceCtorEq, wrap_id, w_ite_ne, w_ite_lt, Nat.sub_zero, Nat.sub_self, h9, h10]
        refine ⟨j - (m + 1), by omega, _, Nat.le_refl _, rfl, fun k hk => by try simp (maxSteps := 500000) (disch := omega) only [go_sem, Int.reduceEq, Int.reduceLT, Int.reduceLE, Int.reduceToNat, Nat.reduceLT, Nat.reduceEqDiff, Nat.reduceAdd, Nat.reduceLeDiff, Nat.reduceSub, Nat.reduceMul, ↓reduceIte, reduceCtorEq, wrap_id, w_ite_ne, w_ite_lt, Nat.sub_zero, Nat.sub_self]; exact hτ k hk, m + 1, j, (by first | ((try simp (maxSteps := 1000000) only [go_sem, Int.reduceEq, Int.reduceLT, Int.reduceLE, Int.reduceToNat, Nat.reduceLT, Nat.reduceEqDiff, Nat.reduceAdd, Nat.reduceLeDiff, Nat.reduceSub, Nat.reduceMul, ↓reduceIte, reduceCtorEq, w_app_nl]); done) | ((try simp (maxSteps := 1000000) only [go_sem, Int.reduceEq, Int.reduceLT, Int.reduceLE, Int.reduceToNat, Nat.reduceLT, Nat.reduceEqDiff, Nat.reduceAdd, Nat.reduceLeDiff, Nat.reduceSub, Nat.reduceMul, ↓reduceIte, reduceCtorEq, w_app_nl]); rfl) | ((try simp (maxSteps := 1000000) (disch := omega) only [go_sem, Int.reduceEq, Int.reduceLT, Int.reduceLE, Int.reduceToNat, Nat.reduceLT, Nat.reduceEqDiff, Nat.reduceAdd, Nat.reduceLeDiff, Nat.reduceSub, Nat.reduceMul, ↓reduceIte, reduceCtorEq, w_app_nl, wrap_id, w_ite_ne, w_ite_lt]); rfl) | (simp (maxSteps := 1000000) (disch := omega) only [go_sem, Int.reduceEq, Int.reduceLT, Int.reduceLE, Int.reduceToNat, Nat.reduceLT, Nat.reduceEqDiff, Nat.reduceAdd, Nat.reduceLeDiff, Nat.reduceSub, Nat.reduceMul, ↓reduceIte, reduceCtorEq, w_app_nl, wrap_id, w_ite_ne, w_ite_lt]; done)), (by first | ((try simp (maxSteps := 1000000) only [go_sem, Int.reduceEq, Int.reduceLT, Int.reduceLE, Int.reduceToNat, Nat.reduceLT, Nat.reduceEqDiff, Nat.reduceAdd, Nat.reduceLeDiff, Nat.reduceSub, Nat.reduceMul, ↓reduceIte, reduceCtorEq, w_app_nl]); done) | ((try simp (maxSteps := 1000000) only [go_sem, Int.reduceEq, Int.reduceLT, Int.reduceLE, Int.reduceToNat, Nat.reduceLT, Nat.reduceEqDiff, Nat.reduceAdd, Nat.reduceLeDiff, Nat.reduceSub, Nat.reduceMul, ↓reduceIte, reduceCtorEq, w_app_nl]); rfl) | ((try simp (maxSteps := 1000000) (disch := omega) only [go_sem, Int.reduceEq, Int.reduceLT, Int.reduceLE, Int.reduceToNat, Nat.reduceLT, Nat.reduceEqDiff, Nat.reduceAdd, Nat.reduceLeDiff, Nat.reduceSub, Nat.reduceMul, ↓reduceIte, reduceCtorEq, w_app_nl, wrap_id, w_ite_ne, w_ite_lt]); rfl) | (simp (maxSteps := 1000000) (disch := omega) only [go_sem, Int.reduceEq, Int.reduceLT, Int.reduceLE, Int.reduceToNat, Nat.reduceLT, Nat.reduceEqDiff, Nat.reduceAdd, Nat.reduceLeDiff, Nat.reduceSub, Nat.reduceMul, ↓reduceIte, reduceCtorEq, w_app_nl, wrap_id, w_ite_ne, w_ite_lt]; done)), by omega, by omega, by omega, fun k hk y hy => ?_, hhi⟩
        by_cases e : k = m
        · subst e; rw [hgm] at hy; obtain rfl := Option.some.inj hy; omega
        · have := hs k m (by omega) y _ hy hgm; omega
      · try simp (maxSteps := 500000) (disch := omega) only [go_sem, Int.reduceEq, Int.reduceLT, Int.reduceLE, Int.reduceToNat, Nat.reduceLT, Nat.reduceEqDiff, Nat.reduceAdd, Nat.reduceLeDiff, Nat.reduceSub, Nat.reduceMul, ↓reduceIte, reduceCtorEq, wrap_id, w_ite_ne, w_ite_lt, Nat.sub_zero, Nat.sub_self, h9, h10]
        refine ⟨m - i, by omega, _, Nat.le_refl _, rfl, fun k hk => by try simp (maxSteps := 500000) (disch := omega) only [go_sem, Int.reduceEq, Int.reduceLT, Int.reduceLE, Int.reduceToNat, Nat.reduceLT, Nat.reduceEqDiff, Nat.reduceAdd, Nat.reduceLeDiff, Nat.reduceSub, Nat.reduceMul, ↓reduceIte, reduceCtorEq, wrap_id, w_ite_ne, w_ite_lt, Nat.sub_zero, Nat.sub_self]; exact hτ k hk, i, m, (by first | ((try simp (maxSteps := 1000000) only [go_sem, Int.reduceEq, Int.reduceLT, Int.reduceLE, Int.reduceToNat, Nat.reduceLT, Nat.reduceEqDiff, Nat.reduceAdd, Nat.reduceLeDiff, Nat.reduceSub, Nat.reduceMul, ↓reduceIte, reduceCtorEq, w_app_nl]); done) | ((try simp (maxSteps := 1000000) only [go_sem, Int.reduceEq, Int.reduceLT, Int.reduceLE, Int.reduceToNat, Nat.reduceLT, Nat.reduceEqDiff, Nat.reduceAdd, Nat.reduceLeDiff, Nat.reduceSub, Nat.reduceMul, ↓reduceIte, reduceCtorEq, w_app_nl]); rfl) | ((try simp (maxSteps := 1000000) (disch := omega) only [go_sem, Int.reduceEq, Int.reduceLT, Int.reduceLE, Int.reduceToNat, Nat.reduceLT, Nat.reduceEqDiff, Nat.reduceAdd, Nat.reduceLeDiff, Nat.reduceSub, Nat.reduceMul, ↓reduceIte, reduceCtorEq, w_app_nl, wrap_id, w_ite_ne, w_ite_lt]); rfl) | (simp (maxSteps := 1000000) (disch := omega) only [go_sem, Int.reduceEq, Int.reduceLT, Int.reduceLE, Int.reduceToNat, Nat.reduceLT, Nat.reduceEqDiff, Nat.reduceAdd, Nat.reduceLeDiff, Nat.reduceSub, Nat.reduceMul, ↓reduceIte, reduceCtorEq, w_app_nl, wrap_id, w_ite_ne, w_ite_lt]; done)), (by first | ((try simp (maxSteps := 1000000) only [go_sem, Int.reduceEq, Int.reduceLT, Int.reduceLE, Int.reduceToNat, Nat.reduceLT, Nat.reduceEqDiff, Nat.reduceAdd, Nat.reduceLeDiff, Nat.reduceSub, Nat.reduceMul, ↓reduceIte, reduceCtorEq, w_app_nl]); done) | ((try simp (maxSteps := 1000000) only [go_sem, Int.reduceEq, Int.reduceLT, Int.reduceLE, Int.reduceToNat, Nat.reduceLT, Nat.reduceEqDiff, Nat.reduceAdd, Nat.reduceLeDiff, Nat.reduceSub, Nat.reduceMul, ↓reduceIte, reduceCtorEq, w_app_nl]); rfl) | ((try simp (maxSteps := 1000000) (disch := omega) only [go_sem, Int.reduceEq, Int.reduceLT, Int.reduceLE, Int.reduceToNat, Nat.reduceLT, Nat.reduceEqDiff, Nat.reduceAdd, Nat.reduceLeDiff, Nat.reduceSub, Nat.reduceMul, ↓reduceIte, reduceCtorEq, w_app_nl, wrap_id, w_ite_ne, w_ite_lt]); rfl) | (simp (maxSteps := 1000000) (disch := omega) only [go_sem, Int.reduceEq, Int.reduceLT, Int.reduceLE, Int.reduceToNat, Nat.reduceLT, Nat.reduceEqDiff, Nat.reduceAdd, Nat.reduceLeDiff, Nat.reduceSub, Nat.reduceMul, ↓reduceIte, reduceCtorEq, w_app_nl, wrap_id, w_ite_ne, w_ite_lt]; done)), by omega, by omega, by omega, hlo, fun k hk y hy => ?_⟩
        by_cases e : k = m
        · subst e; rw [hgm] at hy; obtain rfl := Option.some.inj hy; omega
        · have := hs m k (by omega) _ y hgm hy; omega
    · have hij2 : i = j := by omega
      subst hij2
      have hb := bsI_eq L x i (by omega) hlo hhi
      rw [hb]
      try simp (maxSteps := 500000) (disch := omega) only [go_sem, Int.reduceEq, Int.reduceLT, Int.reduceLE, Int.reduceToNat, Nat.reduceLT, Nat.reduceEqDiff, Nat.reduceAdd, Nat.reduceLeDiff, Nat.reduceSub, Nat.reduceMul, ↓reduceIte, reduceCtorEq, wrap_id, w_ite_ne, w_ite_lt, Nat.sub_zero, Nat.sub_self, h9, h10]
      refine gd_td rfl (fun h => ?_) (fun h => ?_)
      · have hg : l[i]? = some l[i] := List.getElem?_eq_getElem (by omega)
        try simp (maxSteps := 500000) (disch := omega) only [go_sem, Int.reduceEq, Int.reduceLT, Int.reduceLE, Int.reduceToNat, Nat.reduceLT, Nat.reduceEqDiff, Nat.reduceAdd, Nat.reduceLeDiff, Nat.reduceSub, Nat.reduceMul, ↓reduceIte, reduceCtorEq, wrap_id, w_ite_ne, w_ite_lt, Nat.sub_zero, Nat.sub_self, h9, h10, rps_get, rps_length, hg, Option.map_some, rpv]
        repeat (refine And.intro (by first | omega | (rw [mxL]; omega) | (simp [maxLen]; done) | (simp [maxLen]; omega)) ?_)
        refine (hcb l[i] (List.getElem_mem _) ⟨ob, σ.n, c⟩ rfl hτ).mono ?_
        rintro _ _ ⟨rfl, rfl⟩
        try simp (maxSteps := 500000) (disch := omega) only [go_sem, Int.reduceEq, Int.reduceLT, Int.reduceLE, Int.reduceToNat, Nat.reduceLT, Nat.reduceEqDiff, Nat.reduceAdd, Nat.reduceLeDiff, Nat.reduceSub, Nat.reduceMul, ↓reduceIte, reduceCtorEq, wrap_id, w_ite_ne, w_ite_lt, Nat.sub_zero, Nat.sub_self, h9, h10]
        refine ⟨?_, hτ⟩
        have hgm : L[i]? = some l[i].nu := by simp [hL, hg]
        rw [hgm]
        simp only [Option.some.injEq]
        congr 3
        by_cases e : l[i].nu = x
        · simp [e]
        · have : ¬ l[i].nu - x = 0 := by omega
          simp [e, this]
      · try simp (maxSteps := 500000) (disch := omega) only [go_sem, Int.reduceEq, Int.reduceLT, Int.reduceLE, Int.reduceToNat, Nat.reduceLT, Nat.reduceEqDiff, Nat.reduceAdd, Nat.reduceLeDiff, Nat.reduceSub, Nat.reduceMul, ↓reduceIte, reduceCtorEq, wrap_id, w_ite_ne, w_ite_lt, Nat.sub_zero, Nat.sub_self, h9, h10]
        refine ⟨?_, hτ⟩
        rw [List.getElem?_eq_none (by omega)]
        simp
theorem ok_revision_place__Report (B : Bk) (h : BkOK B) (r : Rp) (h1 : 1 ≤ r.nu) (h2 : r.nu ≤ 1073741824) : PC prog n_revision_place__Report [.list 6 (rps B.rp), rpv r, .func n_revision_File_1 []] (.tuple [.int .i64 (bsI (nus B.rp) r.nu), .bool (decide ((nus B.rp)[bsI (nus B.rp) r.nu]? = some r.nu))]) := by
  have hm := h.m
  refine PC_of_body b_revision_place__Report (by simp) ?_
  simp only [c_revision_place__Report, go_sem, Int.reduceEq, Int.reduceLT, Int.reduceLE, Int.reduceToNat, Nat.reduceLT, Nat.reduceEqDiff, Nat.reduceAdd, Nat.reduceLeDiff, Nat.reduceSub, Nat.reduceMul, ↓reduceIte, reduceCtorEq, w_app_nl, rpv]
  try simp (maxSteps := 500000) (disch := omega) only [go_sem, Int.reduceEq, Int.reduceLT, Int.reduceLE, Int.reduceToNat, Nat.reduceLT, Nat.reduceEqDiff, Nat.reduceAdd, Nat.reduceLeDiff, Nat.reduceSub, Nat.reduceMul, ↓reduceIte, reduceCtorEq, wrap_id, w_ite_ne, w_ite_lt, Nat.sub_zero, Nat.sub_self]
  refine call_pc (ok_revision_File_1 r) (by simp [go_sem, rpv]) ?_
  try simp (maxSteps := 500000) (disch := omega) only [go_sem, Int.reduceEq, Int.reduceLT, Int.reduceLE, Int.reduceToNat, Nat.reduceLT, Nat.reduceEqDiff, Nat.reduceAdd, Nat.reduceLeDiff, Nat.reduceSub, Nat.reduceMul, ↓reduceIte, reduceCtorEq, wrap_id, w_ite_ne, w_ite_lt, Nat.sub_zero, Nat.sub_self]
  refine (hc_slices_BinarySearchFunc__int _ B.rp r.nu _ _ (by omega) (pw_asc h.asc) (fun q hq τ hn' hτ => ?_)).mono ?_
  · have hb := h.ro q hq
    have q1 := hb.n1
    have q2 := hb.n2
    refine call_lent (ok_revision_place_1__Report r.nu q (by omega)) (.cons (.pure (by simp [go_sem, rpv])) (.cons (.pure rfl) (.cons ?_ .nil))) rfl ⟨rfl, rfl⟩
    have h0 : τ.ob 1 = some ⟨1, 1, 73, false, true, [.func n_revision_File_1 []]⟩ := hτ 1 (by simp [go_sem])
    refine .ptr h0 rfl rfl rfl (by simp) (fun i a b ha hb => ?_) (by simp [okE, go_sem])
    rw [ha] at hb
    obtain rfl := Option.some.inj hb
    cases i with
    | zero => simp at ha; subst ha; exact .pure rfl
    | succ i => simp at ha
  · rintro _ τ ⟨rfl, _, _⟩
    try simp (maxSteps := 500000) (disch := omega) only [go_sem, Int.reduceEq, Int.reduceLT, Int.reduceLE, Int.reduceToNat, Nat.reduceLT, Nat.reduceEqDiff, Nat.reduceAdd, Nat.reduceLeDiff, Nat.reduceSub, Nat.reduceMul, ↓reduceIte, reduceCtorEq, wrap_id, w_ite_ne, w_ite_lt, Nat.sub_zero, Nat.sub_self]
    exact Pub.of_eq rfl rfl
theorem ok_revision_inserted__Report (l : List Rp) (i : Nat) (r : Rp) (hi : i ≤ l.length) (hl : l.length ≤ 4096) : PC prog n_revision_inserted__Report [.list 6 (rps l), .int .i64 i, rpv r] (.list 6 (rps (l.take i ++ r :: l.drop i))) := by
  refine PC_of_body b_revision_inserted__Report (by simp) ?_
  simp only [c_revision_inserted__Report, go_sem, Int.reduceEq, Int.reduceLT, Int.reduceLE, Int.reduceToNat, Nat.reduceLT, Nat.reduceEqDiff, Nat.reduceAdd, Nat.reduceLeDiff, Nat.reduceSub, Nat.reduceMul, ↓reduceIte, reduceCtorEq, w_app_nl, rpv]
  try simp (maxSteps := 500000) (disch := omega) only [go_sem, Int.reduceEq, Int.reduceLT, Int.reduceLE, Int.reduceToNat, Nat.reduceLT, Nat.reduceEqDiff, Nat.reduceAdd, Nat.reduceLeDiff, Nat.reduceSub, Nat.reduceMul, ↓reduceIte, reduceCtorEq, wrap_id, w_ite_ne, w_ite_lt, Nat.sub_zero, Nat.sub_self]
  refine (hcl_slices_Clone__Report _ (rps l) (by rw [rps_length]; omega)).mono ?_
  rintro X ⟨ob, m, c⟩ ⟨id, g, rfl, hid, hidn, hob, hfr⟩
  simp only at hid hidn hob hfr
  have f0 := hfr 0 (by omega)
  try simp (maxSteps := 500000) (disch := omega) only [go_sem, Int.reduceEq, Int.reduceLT, Int.reduceLE, Int.reduceToNat, Nat.reduceLT, Nat.reduceEqDiff, Nat.reduceAdd, Nat.reduceLeDiff, Nat.reduceSub, Nat.reduceMul, ↓reduceIte, reduceCtorEq, wrap_id, w_ite_ne, w_ite_lt, Nat.sub_zero, Nat.sub_self] at f0
  try simp (maxSteps := 500000) (disch := omega) only [go_sem, Int.reduceEq, Int.reduceLT, Int.reduceLE, Int.reduceToNat, Nat.reduceLT, Nat.reduceEqDiff, Nat.reduceAdd, Nat.reduceLeDiff, Nat.reduceSub, Nat.reduceMul, ↓reduceIte, reduceCtorEq, wrap_id, w_ite_ne, w_ite_lt, Nat.sub_zero, Nat.sub_self, f0]
  have hI := hcL_slices_Insert__Report ⟨ob, m, c⟩ id g (rps l) (rpv r) i (by simp [okE, rpv, go_sem]) hob hidn (by rw [rps_length]; omega) (by rw [rps_length]; omega)
  rw [show (rps l).take i ++ rpv r :: (rps l).drop i = rps (l.take i ++ r :: l.drop i) by simp [rps]] at hI
  simp only [rpv] at hI
  refine hI.mono ?_
  rintro _ ⟨ob2, m2, c2⟩ ⟨id', g', rfl, hid', _, _, h1, hk⟩
  simp only at h1 hk
  have f2 := hk 0 (by omega) (by omega)
  try simp (maxSteps := 500000) (disch := omega) only [go_sem, Int.reduceEq, Int.reduceLT, Int.reduceLE, Int.reduceToNat, Nat.reduceLT, Nat.reduceEqDiff, Nat.reduceAdd, Nat.reduceLeDiff, Nat.reduceSub, Nat.reduceMul, ↓reduceIte, reduceCtorEq, wrap_id, w_ite_ne, w_ite_lt, Nat.sub_zero, Nat.sub_self]
  exact Pub.of_sl h1 rfl (rps_pur _) (rps_ok _)
end Go.Proofs.Try
