/-
  OWN WORK, put together by tools/asm.py: what functions do.
-/
import Derived.Test.YtkigkbnlhkckgaaLibC
set_option linter.unusedSimpArgs false
set_option linter.unusedVariables false
set_option maxRecDepth 100000
set_option maxHeartbeats 1000000
namespace Go.Proofs.Try
open Go.Ab Go
def sq (a t : Ac) : Nat → Int
  | 0 => (gB t.st 0).lo
  | i + 1 => max (gB t.st (i + 1)).lo (sq a t i + (gB a.ins i).lo - (gB a.outs i).hi)
def cm (a t : Ac) (i : Nat) : Int := max (gB a.ins i).lo ((gB a.outs i).lo + (sq a t (i + 1) - sq a t i))
def og (a t : Ac) (i : Nat) : Int := cm a t i - (sq a t (i + 1) - sq a t i)
def mkI (n : Nat) (f : Nat → Int) : List Int := (List.range n).map f
theorem mkI_length (n : Nat) (f : Nat → Int) : (mkI n f).length = n := by simp [mkI]
theorem mkI_get {n i : Nat} (f : Nat → Int) (h : i < n) : (mkI n f)[i]? = some (f i) := by simp [mkI, h]
theorem mkI_getD {n i : Nat} (f : Nat → Int) (h : i < n) : (mkI n f).getD i 0 = f i := by rw [List.getD_eq_getElem?_getD, mkI_get f h]; rfl
theorem mkI_snoc (n : Nat) (f : Nat → Int) : mkI (n + 1) f = mkI n f ++ [f n] := by simp [mkI, List.range_succ]
theorem mkI_one (f : Nat → Int) : mkI 1 f = [f 0] := rfl
def firstS (a : Ac) : (List Int × List Int × List Int) × Int :=
  if (tightS a).2 ≠ 0 then (([], [], []), (tightS a).2)
  else ((mkI (a.ins.length + 1) (sq a (tightS a).1), mkI a.ins.length (cm a (tightS a).1), mkI a.ins.length (og a (tightS a).1)), 0)
theorem tightS_ok {a : Ac} (h : (tightS a).2 = 0) : AcOK a ∧ VD a.st a.ins a.outs a.ins.length ∧ (tightS a).1 = tgt a := by
  unfold tightS at h ⊢
  split at h
  · rename_i h1; exact absurd h h1
  · rename_i h1
    simp only [ne_eq, Decidable.not_not] at h1
    rw [if_neg (by simp [h1])]
    split at h
    · rename_i h2; rw [if_pos h2]; exact ⟨chk_ok.1 h1, vdB_iff.1 h2, rfl⟩
    · cases h
theorem tightS_yes {a : Ac} (h : AcOK a) (hv : VD a.st a.ins a.outs a.ins.length) : tightS a = (tgt a, 0) := by
  unfold tightS
  rw [if_neg (by simp [chk_ok.2 h]), if_pos (vdB_iff.2 hv)]
theorem tightS_no {a : Ac} (h : AcOK a) (hv : ¬ VD a.st a.ins a.outs a.ins.length) : tightS a = (acZ, 48) := by
  unfold tightS
  rw [if_neg (by simp [chk_ok.2 h]), if_neg (by rw [vdB_iff]; exact hv)]
theorem tgt_st {a : Ac} {i : Nat} (h : i ≤ a.ins.length) : gB (tgt a).st i = cB a.st a.ins a.outs a.ins.length i := gB_mk _ (by omega)
theorem tgt_ins {a : Ac} {i : Nat} (h : i < a.ins.length) : gB (tgt a).ins i = cX a.st a.ins a.outs a.ins.length i := gB_mk _ h
theorem tgt_outs {a : Ac} {i : Nat} (h : i < a.ins.length) : gB (tgt a).outs i = cY a.st a.ins a.outs a.ins.length i := gB_mk _ h
theorem sq_in {a : Ac} (h : AcOK a) (hv : VD a.st a.ins a.outs a.ins.length) : ∀ i, i ≤ a.ins.length → inB (cB a.st a.ins a.outs a.ins.length i) (sq a (tgt a) i)
  | 0, hi => by
    have := (h.lens.vd hv).B hi
    rw [sq, tgt_st hi]
    simp only [inB, valB, cB] at *
    omega
  | i + 1, hi => by
    have h1 := sq_in h hv i (by omega)
    have h2 := (h.lens.vd hv).B hi
    rw [sq, tgt_st hi]
    unfold cB at *
    rw [chB_step (by omega)] at h1
    simp only [inB, valB, meetB, bwB] at *
    omega
/-- **What is handed out first is a history.** -/
theorem first_hi {a : Ac} (h : AcOK a) (hv : VD a.st a.ins a.outs a.ins.length) : Hi (gB a.st) (gB a.ins) (gB a.outs) a.ins.length (sq a (tgt a)) (cm a (tgt a)) (og a (tgt a)) := by
  have key : ∀ i, i < a.ins.length → inB (gB a.ins i) (cm a (tgt a) i) ∧ inB (gB a.outs i) (og a (tgt a) i) := fun i hi => by
    have h1 := sq_in h hv i (by omega)
    have h2 := sq_in h hv (i + 1) (by omega)
    have h3 := (h.lens.gx hi).val
    have h4 := (h.lens.gy hi).val
    have h5 : sq a (tgt a) (i + 1) = max (gB (tgt a).st (i + 1)).lo (sq a (tgt a) i + (gB a.ins i).lo - (gB a.outs i).hi) := rfl
    rw [tgt_st (by omega)] at h5
    unfold cB at h1 h2 h5
    rw [chB_step hi] at h1
    unfold og cm
    generalize sq a (tgt a) (i + 1) = s' at *
    generalize sq a (tgt a) i = s at *
    simp only [inB, valB, meetB, bwB] at *
    omega
  refine ⟨fun i hi => chF_sub i _ (chB_F hi (sq_in h hv i hi)), fun i hi => (key i hi).1, fun i hi => (key i hi).2, fun i hi => ?_⟩
  unfold og; omega
/-! three slices that are appended to -/
def Dj (X Y : AV) : Prop := ∀ i, Oth X i ∨ Oth Y i
theorem Dj.symm {X Y : AV} (h : Dj X Y) : Dj Y X := fun i => (h i).symm
theorem Dj.nil (X : AV) : Dj .nil X := fun i => .inl (Oth.nil i)
theorem Dj.kp {X X' Y : AV} {es : Nat} {ty : TypeId} {σ τ : St} {L : List AV} (h : Dj X Y) (hY : SlR es ty σ L Y) (hK : Kp σ X τ X') : Dj X' Y := fun i => by
  rcases Classical.em (Oth Y i) with h1 | h1
  · exact .inr h1
  · refine .inl (hK.2.2 i ?_ ((h i).resolve_right h1))
    rcases Nat.lt_or_ge i σ.n with h2 | h2
    · exact h2
    · exact absurd (hY.oth h2) h1
theorem SlR.dj {X X' Y : AV} {es : Nat} {ty : TypeId} {σ τ : St} {L : List AV} (hY : SlR es ty σ L Y) (h : Dj X Y) (hK : Kp σ X τ X') : SlR es ty τ L Y := hY.move hK.1 fun i hi hno => hK.2.1 i hi ((h i).resolve_right hno)
structure Tri (σ : St) (X8 X9 X10 : AV) (A B C : List Int) (q : Nat) : Prop where
  r8 : SlR 1 3 σ (ints A) X8
  r9 : SlR 1 3 σ (ints B) X9
  r10 : SlR 1 3 σ (ints C) X10
  o8 : ∀ i, i < q → Oth X8 i
  o9 : ∀ i, i < q → Oth X9 i
  o10 : ∀ i, i < q → Oth X10 i
  d89 : Dj X8 X9
  d810 : Dj X8 X10
  d910 : Dj X9 X10
theorem ints_one (L : List Int) (x : Int) : ints L ++ [.int .i64 x] = ints (L ++ [x]) := by simp [ints]
section
variable {σ τ : St} {X8 X9 X10 X : AV} {A B C : List Int} {q : Nat}
theorem Tri.mv (h : Tri σ X8 X9 X10 A B C q) (hn : σ.n ≤ τ.n) (hf : ∀ i, q ≤ i → i < σ.n → τ.ob i = σ.ob i) : Tri τ X8 X9 X10 A B C q := by
  have key : ∀ {Y : AV} {L : List AV}, SlR 1 3 σ L Y → (∀ i, i < q → Oth Y i) → SlR 1 3 τ L Y := fun hY o => hY.move hn fun i hi hno => hf i (by
    rcases Nat.lt_or_ge i q with h | h
    · exact absurd (o i h) hno
    · exact h) hi
  exact ⟨key h.r8 h.o8, key h.r9 h.o9, key h.r10 h.o10, h.o8, h.o9, h.o10, h.d89, h.d810, h.d910⟩
theorem Tri.app8 (h : Tri σ X8 X9 X10 A B C q) (hq : q ≤ σ.n) {x : Int} (hR : SlR 1 3 τ (ints A ++ [.int .i64 x]) X) (hK : Kp σ X8 τ X) : Tri τ X X9 X10 (A ++ [x]) B C q :=
  ⟨by rw [← ints_one]; exact hR, h.r9.dj h.d89 hK, h.r10.dj h.d810 hK, fun i hi => hK.2.2 i (by omega) (h.o8 i hi), h.o9, h.o10, h.d89.kp h.r9 hK, h.d810.kp h.r10 hK, h.d910⟩
theorem Tri.app9 (h : Tri σ X8 X9 X10 A B C q) (hq : q ≤ σ.n) {x : Int} (hR : SlR 1 3 τ (ints B ++ [.int .i64 x]) X) (hK : Kp σ X9 τ X) : Tri τ X8 X X10 A (B ++ [x]) C q :=
  ⟨h.r8.dj h.d89.symm hK, by rw [← ints_one]; exact hR, h.r10.dj h.d910 hK, h.o8, fun i hi => hK.2.2 i (by omega) (h.o9 i hi), h.o10, (h.d89.symm.kp h.r8 hK).symm, h.d810, h.d910.kp h.r10 hK⟩
theorem Tri.app10 (h : Tri σ X8 X9 X10 A B C q) (hq : q ≤ σ.n) {x : Int} (hR : SlR 1 3 τ (ints C ++ [.int .i64 x]) X) (hK : Kp σ X10 τ X) : Tri τ X8 X9 X A B (C ++ [x]) q :=
  ⟨h.r8.dj h.d810.symm hK, h.r9.dj h.d910.symm hK, by rw [← ints_one]; exact hR, h.o8, h.o9, fun i hi => hK.2.2 i (by omega) (h.o10 i hi), h.d89, (h.d810.symm.kp h.r8 hK).symm, (h.d910.symm.kp h.r9 hK).symm⟩
/-- The first is appended to in its place. -/
theorem Tri.ren {id g g2 l l2 : Nat} {x : Int} (h : Tri σ (.sl id g 1 0 l) X9 X10 A B C q) (hn : σ.n ≤ τ.n) (hq : q ≤ id) (hid : id < σ.n) (hl : l2 = A.length + 1) (ho : τ.ob id = some ⟨g2, 1, 3, false, true, ints A ++ [.int .i64 x]⟩) (hf : ∀ i, i < σ.n → i ≠ id → τ.ob i = σ.ob i) : Tri τ (.sl id g2 1 0 l2) X9 X10 (A ++ [x]) B C q := by
  have key : ∀ {Y : AV} {L : List AV}, SlR 1 3 σ L Y → Dj (.sl id g 1 0 l) Y → SlR 1 3 τ L Y := fun hY hd => hY.move hn fun i hi hno => hf i hi fun e => (hd i).elim (fun h => h.ne e.symm) hno
  have key2 : ∀ {Y : AV}, Dj (.sl id g 1 0 l) Y → Dj (.sl id g2 1 0 l2) Y := fun hd i => (hd i).imp_left fun h => Oth.sl h.ne
  refine ⟨.inr ⟨id, g2, by rw [hl, ints_length]; simp, by omega, by rw [ho, ints_one]⟩, key h.r9 h.d89, key h.r10 h.d810, fun i hi => Oth.sl (by omega), h.o9, h.o10, key2 h.d89, key2 h.d810, h.d910⟩
theorem Tri.id_le {id g l : Nat} (h : Tri σ (.sl id g 1 0 l) X9 X10 A B C q) : q ≤ id := by
  rcases Nat.lt_or_ge id q with hh | hh
  · exact absurd rfl (h.o8 id hh).ne
  · exact hh
theorem app8_tri {b : Nat} {x : Int} {K : AV → St → Prop} (h : Tri σ X8 X9 X10 A B C q) (hq : q ≤ σ.n) (hm : A.length + 1 ≤ 1000) (hb : b ≤ 1000) (k : ∀ X τ, Tri τ X X9 X10 (A ++ [x]) B C q → σ.n ≤ τ.n → (∀ i, i < q → τ.ob i = σ.ob i) → K X τ) : appC 1 b 3 X8 (.list 1 [.int .i64 x]) σ K := by
  have hl : (ints A).length = A.length := ints_length A
  refine app_slr (b := b) h.r8 (by omega) (Nat.le_trans (Nat.mul_le_mul (hl ▸ hm) hb) (by omega)) fun X τ hR hK => ?_
  exact k X τ (h.app8 hq hR hK) hK.1 fun i hi => hK.2.1 i (by omega) (h.o8 i hi)
theorem app9_tri {b : Nat} {x : Int} {K : AV → St → Prop} (h : Tri σ X8 X9 X10 A B C q) (hq : q ≤ σ.n) (hm : B.length + 1 ≤ 1000) (hb : b ≤ 1000) (k : ∀ X τ, Tri τ X8 X X10 A (B ++ [x]) C q → σ.n ≤ τ.n → (∀ i, i < q → τ.ob i = σ.ob i) → K X τ) : appC 1 b 3 X9 (.list 1 [.int .i64 x]) σ K := by
  have hl : (ints B).length = B.length := ints_length B
  refine app_slr (b := b) h.r9 (by omega) (Nat.le_trans (Nat.mul_le_mul (hl ▸ hm) hb) (by omega)) fun X τ hR hK => ?_
  exact k X τ (h.app9 hq hR hK) hK.1 fun i hi => hK.2.1 i (by omega) (h.o9 i hi)
theorem app10_tri {b : Nat} {x : Int} {K : AV → St → Prop} (h : Tri σ X8 X9 X10 A B C q) (hq : q ≤ σ.n) (hm : C.length + 1 ≤ 1000) (hb : b ≤ 1000) (k : ∀ X τ, Tri τ X8 X9 X A B (C ++ [x]) q → σ.n ≤ τ.n → (∀ i, i < q → τ.ob i = σ.ob i) → K X τ) : appC 1 b 3 X10 (.list 1 [.int .i64 x]) σ K := by
  have hl : (ints C).length = C.length := ints_length C
  refine app_slr (b := b) h.r10 (by omega) (Nat.le_trans (Nat.mul_le_mul (hl ▸ hm) hb) (by omega)) fun X τ hR hK => ?_
  exact k X τ (h.app10 hq hR hK) hK.1 fun i hi => hK.2.1 i (by omega) (h.o10 i hi)
theorem Tri.swap (h : Tri σ X8 X9 X10 A B C q) : Tri σ X9 X10 X8 B C A q := ⟨h.r9, h.r10, h.r8, h.o9, h.o10, h.o8, h.d910, h.d89.symm, h.d810.symm⟩
end
theorem ok_ledger_First (a : Ac) (hl : AcL a) : PC prog n_ledger_First [acv a] (.tuple [.list 1 (ints (firstS a).1.1), .list 1 (ints (firstS a).1.2.1), .list 1 (ints (firstS a).1.2.2), .int .i64 (firstS a).2]) := by
  refine PC_of_body b_ledger_First (by simp) ?_
  simp only [c_ledger_First, go_sem, Int.reduceEq, Int.reduceLT, Int.reduceLE, Int.reduceToNat, Nat.reduceLT, Nat.reduceEqDiff, Nat.reduceAdd, Nat.reduceLeDiff, Nat.reduceSub, Nat.reduceMul, ↓reduceIte, reduceCtorEq, w_app_nl, acv]
  refine call_pc (ok_ledger_Tighten a hl) (by simp [go_sem, acv, bds_pur]) ?_
  try simp (maxSteps := 500000) (disch := omega) only [go_sem, Int.reduceEq, Int.reduceLT, Int.reduceLE, Int.reduceToNat, Nat.reduceLT, Nat.reduceEqDiff, Nat.reduceAdd, Nat.reduceLeDiff, Nat.reduceSub, Nat.reduceMul, ↓reduceIte, reduceCtorEq, wrap_id, w_ite_ne, w_ite_lt, Nat.sub_zero, Nat.sub_self, acv]
  refine cond_n (fun h => ?_) (fun h => ?_) <;> try simp (maxSteps := 500000) (disch := omega) only [go_sem, Int.reduceEq, Int.reduceLT, Int.reduceLE, Int.reduceToNat, Nat.reduceLT, Nat.reduceEqDiff, Nat.reduceAdd, Nat.reduceLeDiff, Nat.reduceSub, Nat.reduceMul, ↓reduceIte, reduceCtorEq, wrap_id, w_ite_ne, w_ite_lt, Nat.sub_zero, Nat.sub_self]
  · rw [show firstS a = (([], [], []), (tightS a).2) by simp only [firstS, if_pos h]]
    exact Pub.tu (.cons (.nl 1) (.cons (.nl 1) (.cons (.nl 1) (.cons (.pure rfl) .nil))))
  obtain ⟨hok, hv, ht⟩ := tightS_ok h
  have hhi := first_hi hok hv
  rw [show firstS a = ((mkI (a.ins.length + 1) (sq a (tgt a)), mkI a.ins.length (cm a (tgt a)), mkI a.ins.length (og a (tgt a))), 0) by simp only [firstS]; rw [if_neg (by simp [h]), ht]]
  rw [ht]
  have hLs := hok.ns
  have hLy := hok.no
  have hLn := hok.n2
  have hT1 : (tgt a).st.length = a.ins.length + 1 := mkL_length _ _
  have e0 := gB_get (L := (tgt a).st) (i := 0) (by omega)
  have hs0 : (gB (tgt a).st 0).lo = sq a (tgt a) 0 := rfl
  have hst : ∀ i, i ≤ a.ins.length → 0 ≤ sq a (tgt a) i ∧ sq a (tgt a) i ≤ 274877906944 := fun i hi => inB_fit (cB_fit hok.lens hv hi) (sq_in hok hv i hi)
  have hstep : ∀ i, sq a (tgt a) (i + 1) = max (gB (tgt a).st (i + 1)).lo (sq a (tgt a) i + (gB a.ins i).lo - (gB a.outs i).hi) := fun i => rfl
  have hcm : ∀ i, cm a (tgt a) i = max (gB a.ins i).lo ((gB a.outs i).lo + (sq a (tgt a) (i + 1) - sq a (tgt a) i)) := fun i => rfl
  have hog : ∀ i, og a (tgt a) i = cm a (tgt a) i - (sq a (tgt a) (i + 1) - sq a (tgt a) i) := fun i => rfl
  have hcb : ∀ i, i < a.ins.length → 0 ≤ cm a (tgt a) i ∧ cm a (tgt a) i ≤ 274877906944 := fun i hi => inB_fit (hok.lens.gx hi) (hhi.ins i hi)
  have htf : ∀ i, i ≤ a.ins.length → 0 ≤ (gB (tgt a).st i).lo ∧ (gB (tgt a).st i).lo ≤ 274877906944 := fun i hi => by
    have := fit_bd (cB_fit hok.lens hv hi); rw [tgt_st hi]; omega
  generalize tgt a = t at *
  generalize sq a t = f at *
  generalize cm a t = f2 at *
  generalize og a t = f3 at *
  try simp (maxSteps := 500000) (disch := omega) only [go_sem, Int.reduceEq, Int.reduceLT, Int.reduceLE, Int.reduceToNat, Nat.reduceLT, Nat.reduceEqDiff, Nat.reduceAdd, Nat.reduceLeDiff, Nat.reduceSub, Nat.reduceMul, ↓reduceIte, reduceCtorEq, wrap_id, w_ite_ne, w_ite_lt, Nat.sub_zero, Nat.sub_self, bds_length, bds_get, e0, Option.map_some, bdv, hT1]
  refine ⟨by omega, ?_⟩
  have hI0 : SlR 1 3 (⟨upd (fun x => none) 2 (some ⟨2, 1, 3, false, true, [.int .i64 (gB t.st 0).lo]⟩), 3, 3⟩ : St) (ints (mkI 1 f)) (.sl 2 2 1 0 1) := .inr ⟨2, 2, rfl, by simp only; omega, by rw [mkI_one, hs0]; simp [upd, ints]⟩
  refine awp_upG [8, 9, 10, 11, 12, 13, 14, 15, 16, 34, 35, 36, 37, 38, 39, 40, 41, 42, 43, 44, 45, 46, 47, 48, 49, 50, 51, 52, 53, 54, 55, 56, 57, 58, 59, 60, 61, 62, 63, 64, 65, 66, 67, 68, 69, 70, 71, 72, 73, 74, 75, 76, 77, 78, 79, 80, 81, 82, 83, 84, 85, 86, 87, 88, 89] (by kernel_rfl) a.ins.length (fun k e σ => e 34 = .int .i64 k ∧ σ.ob 0 = some ⟨0, 4, 33, false, true, [.agg [.int .i64 a.fr, .list 2 (bds a.st), .list 2 (bds a.ins), .list 2 (bds a.outs)]]⟩ ∧
    σ.ob 1 = some ⟨1, 4, 33, false, true, [.agg [.int .i64 t.fr, .list 2 (bds t.st), .list 2 (bds t.ins), .list 2 (bds t.outs)]]⟩ ∧ Tri σ (e 8) (e 9) (e 10) (mkI (k + 1) f) (mkI k f2) (mkI k f3) 2) ?_ ?_
  · refine ⟨(by first | ((try simp (maxSteps := 1000000) only [go_sem, Int.reduceEq, Int.reduceLT, Int.reduceLE, Int.reduceToNat, Nat.reduceLT, Nat.reduceEqDiff, Nat.reduceAdd, Nat.reduceLeDiff, Nat.reduceSub, Nat.reduceMul, ↓reduceIte, reduceCtorEq, w_app_nl]); done) | ((try simp (maxSteps := 1000000) only [go_sem, Int.reduceEq, Int.reduceLT, Int.reduceLE, Int.reduceToNat, Nat.reduceLT, Nat.reduceEqDiff, Nat.reduceAdd, Nat.reduceLeDiff, Nat.reduceSub, Nat.reduceMul, ↓reduceIte, reduceCtorEq, w_app_nl]); rfl) | ((try simp (maxSteps := 1000000) (disch := omega) only [go_sem, Int.reduceEq, Int.reduceLT, Int.reduceLE, Int.reduceToNat, Nat.reduceLT, Nat.reduceEqDiff, Nat.reduceAdd, Nat.reduceLeDiff, Nat.reduceSub, Nat.reduceMul, ↓reduceIte, reduceCtorEq, w_app_nl, wrap_id, w_ite_ne, w_ite_lt]); rfl) | (simp (maxSteps := 1000000) (disch := omega) only [go_sem, Int.reduceEq, Int.reduceLT, Int.reduceLE, Int.reduceToNat, Nat.reduceLT, Nat.reduceEqDiff, Nat.reduceAdd, Nat.reduceLeDiff, Nat.reduceSub, Nat.reduceMul, ↓reduceIte, reduceCtorEq, w_app_nl, wrap_id, w_ite_ne, w_ite_lt]; done)), (by first | ((try simp (maxSteps := 1000000) only [go_sem, Int.reduceEq, Int.reduceLT, Int.reduceLE, Int.reduceToNat, Nat.reduceLT, Nat.reduceEqDiff, Nat.reduceAdd, Nat.reduceLeDiff, Nat.reduceSub, Nat.reduceMul, ↓reduceIte, reduceCtorEq, w_app_nl]); done) | ((try simp (maxSteps := 1000000) only [go_sem, Int.reduceEq, Int.reduceLT, Int.reduceLE, Int.reduceToNat, Nat.reduceLT, Nat.reduceEqDiff, Nat.reduceAdd, Nat.reduceLeDiff, Nat.reduceSub, Nat.reduceMul, ↓reduceIte, reduceCtorEq, w_app_nl]); rfl) | ((try simp (maxSteps := 1000000) (disch := omega) only [go_sem, Int.reduceEq, Int.reduceLT, Int.reduceLE, Int.reduceToNat, Nat.reduceLT, Nat.reduceEqDiff, Nat.reduceAdd, Nat.reduceLeDiff, Nat.reduceSub, Nat.reduceMul, ↓reduceIte, reduceCtorEq, w_app_nl, wrap_id, w_ite_ne, w_ite_lt]); rfl) | (simp (maxSteps := 1000000) (disch := omega) only [go_sem, Int.reduceEq, Int.reduceLT, Int.reduceLE, Int.reduceToNat, Nat.reduceLT, Nat.reduceEqDiff, Nat.reduceAdd, Nat.reduceLeDiff, Nat.reduceSub, Nat.reduceMul, ↓reduceIte, reduceCtorEq, w_app_nl, wrap_id, w_ite_ne, w_ite_lt]; done)), (by first | ((try simp (maxSteps := 1000000) only [go_sem, Int.reduceEq, Int.reduceLT, Int.reduceLE, Int.reduceToNat, Nat.reduceLT, Nat.reduceEqDiff, Nat.reduceAdd, Nat.reduceLeDiff, Nat.reduceSub, Nat.reduceMul, ↓reduceIte, reduceCtorEq, w_app_nl]); done) | ((try simp (maxSteps := 1000000) only [go_sem, Int.reduceEq, Int.reduceLT, Int.reduceLE, Int.reduceToNat, Nat.reduceLT, Nat.reduceEqDiff, Nat.reduceAdd, Nat.reduceLeDiff, Nat.reduceSub, Nat.reduceMul, ↓reduceIte, reduceCtorEq, w_app_nl]); rfl) | ((try simp (maxSteps := 1000000) (disch := omega) only [go_sem, Int.reduceEq, Int.reduceLT, Int.reduceLE, Int.reduceToNat, Nat.reduceLT, Nat.reduceEqDiff, Nat.reduceAdd, Nat.reduceLeDiff, Nat.reduceSub, Nat.reduceMul, ↓reduceIte, reduceCtorEq, w_app_nl, wrap_id, w_ite_ne, w_ite_lt]); rfl) | (simp (maxSteps := 1000000) (disch := omega) only [go_sem, Int.reduceEq, Int.reduceLT, Int.reduceLE, Int.reduceToNat, Nat.reduceLT, Nat.reduceEqDiff, Nat.reduceAdd, Nat.reduceLeDiff, Nat.reduceSub, Nat.reduceMul, ↓reduceIte, reduceCtorEq, w_app_nl, wrap_id, w_ite_ne, w_ite_lt]; done)), ?_⟩
    try simp (maxSteps := 500000) (disch := omega) only [go_sem, Int.reduceEq, Int.reduceLT, Int.reduceLE, Int.reduceToNat, Nat.reduceLT, Nat.reduceEqDiff, Nat.reduceAdd, Nat.reduceLeDiff, Nat.reduceSub, Nat.reduceMul, ↓reduceIte, reduceCtorEq, wrap_id, w_ite_ne, w_ite_lt, Nat.sub_zero, Nat.sub_self]
    exact ⟨hI0.move (Nat.le_refl _) fun i hi hno => by
        have hi : i < 3 := hi
        have h2 : i = 2 := by
          rcases Nat.lt_or_ge i 2 with h | h
          · exact absurd (Oth.sl (by omega)) hno
          · omega
        subst h2; simp [upd], .nil, .nil, fun i hi => Oth.sl (by omega), fun i _ => Oth.nil i, fun i _ => Oth.nil i, (Dj.nil _).symm, (Dj.nil _).symm, Dj.nil _⟩
  rintro k fe ob m c hk hm ⟨h34, hob0, hob1, hT⟩
  simp (maxSteps := 1000000) only [go_sem, Int.reduceEq, Int.reduceLT, Int.reduceLE, Int.reduceToNat, Nat.reduceLT, Nat.reduceEqDiff, Nat.reduceAdd, Nat.reduceLeDiff, Nat.reduceSub, Nat.reduceMul, ↓reduceIte, reduceCtorEq, w_app_nl] at h34 hob0 hob1 hT hm
  obtain ⟨X8, h8⟩ : ∃ X, fe 8 = X := ⟨_, rfl⟩
  obtain ⟨X9, h9⟩ : ∃ X, fe 9 = X := ⟨_, rfl⟩
  obtain ⟨X10, h10⟩ : ∃ X, fe 10 = X := ⟨_, rfl⟩
  rw [h8, h9, h10] at hT
  try simp (maxSteps := 500000) (disch := omega) only [go_sem, Int.reduceEq, Int.reduceLT, Int.reduceLE, Int.reduceToNat, Nat.reduceLT, Nat.reduceEqDiff, Nat.reduceAdd, Nat.reduceLeDiff, Nat.reduceSub, Nat.reduceMul, ↓reduceIte, reduceCtorEq, wrap_id, w_ite_ne, w_ite_lt, Nat.sub_zero, Nat.sub_self, h34]
  refine cond_d (fun hlt => ?_) (fun hge => ?_)
  · have hkl : k < a.ins.length := by omega
    have e1 := gB_get (L := t.st) (i := k + 1) (by omega)
    have e3 := gB_get (L := a.ins) (i := k) (by omega)
    have e4 := gB_get (L := a.outs) (i := k) (by omega)
    have f3' := fit_bd (gB_fit hok.bi (i := k) (by omega))
    have f4' := fit_bd (gB_fit hok.bo (i := k) (by omega))
    have g1 := hst k (by omega)
    have g2 := hst (k + 1) (by omega)
    have g3 := htf (k + 1) (by omega)
    have g4 := hstep k
    have g5 := hcm k
    have g6 := hog k
    have g7 := hcb k hkl
    have hT0 := hT
    obtain ⟨r8, -⟩ := hT
    rcases r8 with ⟨-, hnil⟩ | ⟨id, g, rfl, hid, hidob⟩
    · simp [ints, mkI] at hnil
    simp only [ints_length, mkI_length] at h8 hT0 hidob
    try simp (maxSteps := 500000) (disch := omega) only [go_sem, Int.reduceEq, Int.reduceLT, Int.reduceLE, Int.reduceToNat, Nat.reduceLT, Nat.reduceEqDiff, Nat.reduceAdd, Nat.reduceLeDiff, Nat.reduceSub, Nat.reduceMul, ↓reduceIte, reduceCtorEq, wrap_id, w_ite_ne, w_ite_lt, Nat.sub_zero, Nat.sub_self, h34, h8, hob0, hob1, bds_length, bds_get, e3, e4, Option.map_some, bdv]
    have hid : id < m := hid
    have q1 : ¬ id = m := by omega
    have q2 : ¬ id = m + 1 := by omega
    have e8 : (mkI (k + 1) f)[k]? = some (f k) := mkI_get f (by omega)
    try simp (maxSteps := 500000) (disch := omega) only [go_sem, Int.reduceEq, Int.reduceLT, Int.reduceLE, Int.reduceToNat, Nat.reduceLT, Nat.reduceEqDiff, Nat.reduceAdd, Nat.reduceLeDiff, Nat.reduceSub, Nat.reduceMul, ↓reduceIte, reduceCtorEq, wrap_id, w_ite_ne, w_ite_lt, Nat.sub_zero, Nat.sub_self, q1, q2, hidob, hob1, ints_get, e8, Option.map_some, bds_length, bds_get, e1, bdv]
    refine ⟨by omega, by omega, by omega, by omega, by omega, by omega, by omega, by omega, ?_⟩
    rw [show ((k : Int) + 1).toNat = k + 1 by omega]
    try simp (maxSteps := 500000) (disch := omega) only [go_sem, Int.reduceEq, Int.reduceLT, Int.reduceLE, Int.reduceToNat, Nat.reduceLT, Nat.reduceEqDiff, Nat.reduceAdd, Nat.reduceLeDiff, Nat.reduceSub, Nat.reduceMul, ↓reduceIte, reduceCtorEq, wrap_id, w_ite_ne, w_ite_lt, Nat.sub_zero, Nat.sub_self, e1, bdv, Option.map_some, ← g4, q1, q2, hidob, ints_length, mkI_length, ints_get, e8, ← g5]
    refine ⟨by omega, by omega, by rw [mxL]; omega, by omega, ?_⟩
    try simp (maxSteps := 500000) (disch := omega) only [go_sem, Int.reduceEq, Int.reduceLT, Int.reduceLE, Int.reduceToNat, Nat.reduceLT, Nat.reduceEqDiff, Nat.reduceAdd, Nat.reduceLeDiff, Nat.reduceSub, Nat.reduceMul, ↓reduceIte, reduceCtorEq, wrap_id, w_ite_ne, w_ite_lt, Nat.sub_zero, Nat.sub_self, h9]
    refine app9_tri (A := mkI (k + 1 + 1) f) (B := mkI k f2) (C := mkI k f3) (q := 2) (X8 := .sl id (c + 1 + 1) 1 0 (k + 1 + 1)) (X10 := X10) ?_ (by simp only; omega) (by rw [mkI_length]; omega) (by omega) fun Y9 τ9 hT9 hn9 hf9 => ?_
    · rw [mkI_snoc (k + 1)]
      refine hT0.ren (by simp only; omega) hT0.id_le hid (by rw [mkI_length]) (by try simp (maxSteps := 500000) (disch := omega) only [go_sem, Int.reduceEq, Int.reduceLT, Int.reduceLE, Int.reduceToNat, Nat.reduceLT, Nat.reduceEqDiff, Nat.reduceAdd, Nat.reduceLeDiff, Nat.reduceSub, Nat.reduceMul, ↓reduceIte, reduceCtorEq, wrap_id, w_ite_ne, w_ite_lt, Nat.sub_zero, Nat.sub_self]) fun i hi hne => ?_
      simp only at hi ⊢
      rw [upd_ne _ _ _ _ hne, upd_ne _ _ _ _ (by omega), upd_ne _ _ _ _ (by omega), upd_ne _ _ _ _ (by omega), upd_ne _ _ _ _ (by omega)]
    simp only at hn9 hf9
    rw [← mkI_snoc] at hT9
    have w0 := hf9 0 (by omega)
    have w1 := hf9 1 (by omega)
    have hid2 := hT0.id_le
    have z0 : ¬ 0 = m := by omega
    have z1 : ¬ 0 = m + 1 := by omega
    have z2 : ¬ 1 = m := by omega
    have z3 : ¬ 1 = m + 1 := by omega
    have z4 : ¬ 0 = id := by omega
    have z5 : ¬ 1 = id := by omega
    try simp (maxSteps := 500000) (disch := omega) only [go_sem, Int.reduceEq, Int.reduceLT, Int.reduceLE, Int.reduceToNat, Nat.reduceLT, Nat.reduceEqDiff, Nat.reduceAdd, Nat.reduceLeDiff, Nat.reduceSub, Nat.reduceMul, ↓reduceIte, reduceCtorEq, wrap_id, w_ite_ne, w_ite_lt, Nat.sub_zero, Nat.sub_self, z0, z1, z4, hob0] at w0
    try simp (maxSteps := 500000) (disch := omega) only [go_sem, Int.reduceEq, Int.reduceLT, Int.reduceLE, Int.reduceToNat, Nat.reduceLT, Nat.reduceEqDiff, Nat.reduceAdd, Nat.reduceLeDiff, Nat.reduceSub, Nat.reduceMul, ↓reduceIte, reduceCtorEq, wrap_id, w_ite_ne, w_ite_lt, Nat.sub_zero, Nat.sub_self, z2, z3, z5, hob1] at w1
    try simp (maxSteps := 500000) (disch := omega) only [go_sem, Int.reduceEq, Int.reduceLT, Int.reduceLE, Int.reduceToNat, Nat.reduceLT, Nat.reduceEqDiff, Nat.reduceAdd, Nat.reduceLeDiff, Nat.reduceSub, Nat.reduceMul, ↓reduceIte, reduceCtorEq, wrap_id, w_ite_ne, w_ite_lt, Nat.sub_zero, Nat.sub_self, h10, ← g6]
    refine app10_tri hT9 (by omega) (by rw [mkI_length]; omega) (by omega) fun Y10 τ10 hT10 hn10 hf10 => ?_
    rw [← mkI_snoc] at hT10
    have w00 := (hf10 0 (by omega)).trans w0
    have w11 := (hf10 1 (by omega)).trans w1
    try simp (maxSteps := 500000) (disch := omega) only [go_sem, Int.reduceEq, Int.reduceLT, Int.reduceLE, Int.reduceToNat, Nat.reduceLT, Nat.reduceEqDiff, Nat.reduceAdd, Nat.reduceLeDiff, Nat.reduceSub, Nat.reduceMul, ↓reduceIte, reduceCtorEq, wrap_id, w_ite_ne, w_ite_lt, Nat.sub_zero, Nat.sub_self, h34]
    refine up_nextG τ10.n hkl (by omega) ⟨(by first | ((try simp (maxSteps := 1000000) only [go_sem, Int.reduceEq, Int.reduceLT, Int.reduceLE, Int.reduceToNat, Nat.reduceLT, Nat.reduceEqDiff, Nat.reduceAdd, Nat.reduceLeDiff, Nat.reduceSub, Nat.reduceMul, ↓reduceIte, reduceCtorEq, w_app_nl]); done) | ((try simp (maxSteps := 1000000) only [go_sem, Int.reduceEq, Int.reduceLT, Int.reduceLE, Int.reduceToNat, Nat.reduceLT, Nat.reduceEqDiff, Nat.reduceAdd, Nat.reduceLeDiff, Nat.reduceSub, Nat.reduceMul, ↓reduceIte, reduceCtorEq, w_app_nl]); rfl) | ((try simp (maxSteps := 1000000) (disch := omega) only [go_sem, Int.reduceEq, Int.reduceLT, Int.reduceLE, Int.reduceToNat, Nat.reduceLT, Nat.reduceEqDiff, Nat.reduceAdd, Nat.reduceLeDiff, Nat.reduceSub, Nat.reduceMul, ↓reduceIte, reduceCtorEq, w_app_nl, wrap_id, w_ite_ne, w_ite_lt]); rfl) | (simp (maxSteps := 1000000) (disch := omega) only [go_sem, Int.reduceEq, Int.reduceLT, Int.reduceLE, Int.reduceToNat, Nat.reduceLT, Nat.reduceEqDiff, Nat.reduceAdd, Nat.reduceLeDiff, Nat.reduceSub, Nat.reduceMul, ↓reduceIte, reduceCtorEq, w_app_nl, wrap_id, w_ite_ne, w_ite_lt]; done)), ?_, ?_, ?_⟩
    · simp only [St.trunc]; rw [if_pos (by omega)]; exact w00
    · simp only [St.trunc]; rw [if_pos (by omega)]; exact w11
    · try simp (maxSteps := 500000) (disch := omega) only [go_sem, Int.reduceEq, Int.reduceLT, Int.reduceLE, Int.reduceToNat, Nat.reduceLT, Nat.reduceEqDiff, Nat.reduceAdd, Nat.reduceLeDiff, Nat.reduceSub, Nat.reduceMul, ↓reduceIte, reduceCtorEq, wrap_id, w_ite_ne, w_ite_lt, Nat.sub_zero, Nat.sub_self]
      exact hT10.mv (Nat.le_refl _) fun i _ hi => by simp [St.trunc, hi]
  · try simp (maxSteps := 500000) (disch := omega) only [go_sem, Int.reduceEq, Int.reduceLT, Int.reduceLE, Int.reduceToNat, Nat.reduceLT, Nat.reduceEqDiff, Nat.reduceAdd, Nat.reduceLeDiff, Nat.reduceSub, Nat.reduceMul, ↓reduceIte, reduceCtorEq, wrap_id, w_ite_ne, w_ite_lt, Nat.sub_zero, Nat.sub_self, h8, h9, h10]
    obtain rfl : a.ins.length = k := by omega
    exact Pub.tu (.cons (hT.r8.pub (fun _ _ _ => rfl) (ints_pur _) (ints_ok _)) (.cons (hT.r9.pub (fun _ _ _ => rfl) (ints_pur _) (ints_ok _)) (.cons (hT.r10.pub (fun _ _ _ => rfl) (ints_pur _) (ints_ok _)) (.cons (.pure rfl) .nil))))
theorem app9_triK {σ : St} {X8 X9 X10 : AV} {A B C : List Int} {q b : Nat} {x : Int} {K : AV → St → Prop} (h : Tri σ X8 X9 X10 A B C q) (hq : q ≤ σ.n) (hm : B.length + 1 ≤ 1000) (hb : b ≤ 1000) (k : ∀ X τ, Tri τ X8 X X10 A (B ++ [x]) C q → Kp σ X9 τ X → (∀ i, i < q → τ.ob i = σ.ob i) → K X τ) : appC 1 b 3 X9 (.list 1 [.int .i64 x]) σ K := by
  have hl : (ints B).length = B.length := ints_length B
  refine app_slr (b := b) h.r9 (by omega) (Nat.le_trans (Nat.mul_le_mul (hl ▸ hm) hb) (by omega)) fun X τ hR hK => ?_
  exact k X τ (h.app9 hq hR hK) hK fun i hi => hK.2.1 i (by omega) (h.o9 i hi)
theorem app10_triK {σ : St} {X8 X9 X10 : AV} {A B C : List Int} {q b : Nat} {x : Int} {K : AV → St → Prop} (h : Tri σ X8 X9 X10 A B C q) (hq : q ≤ σ.n) (hm : C.length + 1 ≤ 1000) (hb : b ≤ 1000) (k : ∀ X τ, Tri τ X8 X9 X A B (C ++ [x]) q → Kp σ X10 τ X → (∀ i, i < q → τ.ob i = σ.ob i) → K X τ) : appC 1 b 3 X10 (.list 1 [.int .i64 x]) σ K := by
  have hl : (ints C).length = C.length := ints_length C
  refine app_slr (b := b) h.r10 (by omega) (Nat.le_trans (Nat.mul_le_mul (hl ▸ hm) hb) (by omega)) fun X τ hR hK => ?_
  exact k X τ (h.app10 hq hR hK) hK fun i hi => hK.2.1 i (by omega) (h.o10 i hi)
theorem Dj.oth {X : AV} {id g es o n : Nat} (h : Dj (.sl id g es o n) X) : Oth X id := (h id).resolve_left fun h => h.ne rfl
theorem ok_ref30_First (a : Ac) (hl : AcL a) : PC prog n_ref30_First [acv a] (.tuple [.list 1 (ints (firstS a).1.1), .list 1 (ints (firstS a).1.2.1), .list 1 (ints (firstS a).1.2.2), .int .i64 (firstS a).2]) := by
  refine PC_of_body b_ref30_First (by simp) ?_
  simp only [c_ref30_First, go_sem, Int.reduceEq, Int.reduceLT, Int.reduceLE, Int.reduceToNat, Nat.reduceLT, Nat.reduceEqDiff, Nat.reduceAdd, Nat.reduceLeDiff, Nat.reduceSub, Nat.reduceMul, ↓reduceIte, reduceCtorEq, w_app_nl, acv]
  refine call_pc (ok_ref30_Tighten a hl) (by simp [go_sem, acv, bds_pur]) ?_
  try simp (maxSteps := 500000) (disch := omega) only [go_sem, Int.reduceEq, Int.reduceLT, Int.reduceLE, Int.reduceToNat, Nat.reduceLT, Nat.reduceEqDiff, Nat.reduceAdd, Nat.reduceLeDiff, Nat.reduceSub, Nat.reduceMul, ↓reduceIte, reduceCtorEq, wrap_id, w_ite_ne, w_ite_lt, Nat.sub_zero, Nat.sub_self, acv]
  refine cond_n (fun h => ?_) (fun h => ?_) <;> try simp (maxSteps := 500000) (disch := omega) only [go_sem, Int.reduceEq, Int.reduceLT, Int.reduceLE, Int.reduceToNat, Nat.reduceLT, Nat.reduceEqDiff, Nat.reduceAdd, Nat.reduceLeDiff, Nat.reduceSub, Nat.reduceMul, ↓reduceIte, reduceCtorEq, wrap_id, w_ite_ne, w_ite_lt, Nat.sub_zero, Nat.sub_self]
  · rw [show firstS a = (([], [], []), (tightS a).2) by simp only [firstS, if_pos h]]
    exact Pub.tu (.cons (.nl 1) (.cons (.nl 1) (.cons (.nl 1) (.cons (.pure rfl) .nil))))
  obtain ⟨hok, hv, ht⟩ := tightS_ok h
  have hhi := first_hi hok hv
  rw [show firstS a = ((mkI (a.ins.length + 1) (sq a (tgt a)), mkI a.ins.length (cm a (tgt a)), mkI a.ins.length (og a (tgt a))), 0) by simp only [firstS]; rw [if_neg (by simp [h]), ht]]
  rw [ht]
  have hLs := hok.ns
  have hLy := hok.no
  have hLn := hok.n2
  have hT1 : (tgt a).st.length = a.ins.length + 1 := mkL_length _ _
  have hT2 : (tgt a).ins.length = a.ins.length := mkL_length _ _
  have e0 := gB_get (L := (tgt a).st) (i := 0) (by omega)
  have hs0 : (gB (tgt a).st 0).lo = sq a (tgt a) 0 := rfl
  have hst : ∀ i, i ≤ a.ins.length → 0 ≤ sq a (tgt a) i ∧ sq a (tgt a) i ≤ 274877906944 := fun i hi => inB_fit (cB_fit hok.lens hv hi) (sq_in hok hv i hi)
  have hstep : ∀ i, sq a (tgt a) (i + 1) = max (gB (tgt a).st (i + 1)).lo (sq a (tgt a) i + (gB a.ins i).lo - (gB a.outs i).hi) := fun i => rfl
  have hcm : ∀ i, cm a (tgt a) i = max (gB a.ins i).lo ((gB a.outs i).lo + (sq a (tgt a) (i + 1) - sq a (tgt a) i)) := fun i => rfl
  have hog : ∀ i, og a (tgt a) i = cm a (tgt a) i - (sq a (tgt a) (i + 1) - sq a (tgt a) i) := fun i => rfl
  have hcb : ∀ i, i < a.ins.length → 0 ≤ cm a (tgt a) i ∧ cm a (tgt a) i ≤ 274877906944 := fun i hi => inB_fit (hok.lens.gx hi) (hhi.ins i hi)
  have htf : ∀ i, i ≤ a.ins.length → 0 ≤ (gB (tgt a).st i).lo ∧ (gB (tgt a).st i).lo ≤ 274877906944 := fun i hi => by
    have := fit_bd (cB_fit hok.lens hv hi); rw [tgt_st hi]; omega
  generalize tgt a = t at *
  generalize sq a t = f at *
  generalize cm a t = f2 at *
  generalize og a t = f3 at *
  try simp (maxSteps := 500000) (disch := omega) only [go_sem, Int.reduceEq, Int.reduceLT, Int.reduceLE, Int.reduceToNat, Nat.reduceLT, Nat.reduceEqDiff, Nat.reduceAdd, Nat.reduceLeDiff, Nat.reduceSub, Nat.reduceMul, ↓reduceIte, reduceCtorEq, wrap_id, w_ite_ne, w_ite_lt, Nat.sub_zero, Nat.sub_self, bds_length, bds_get, e0, Option.map_some, bdv, hT1, hT2]
  refine ⟨by omega, ?_⟩
  have hI0 : SlR 1 3 (⟨upd (fun x => none) 2 (some ⟨2, 1, 3, false, true, [.int .i64 (gB t.st 0).lo]⟩), 3, 3⟩ : St) (ints (mkI 1 f)) (.sl 2 2 1 0 1) := .inr ⟨2, 2, rfl, by simp only; omega, by rw [mkI_one, hs0]; simp [upd, ints]⟩
  refine awp_upG [8, 9, 10, 11, 12, 13, 31, 32, 33, 34, 35, 36, 37, 38, 39, 40, 41, 42, 43, 44, 45, 46, 47, 48, 49, 50, 51, 52, 53, 54, 55, 56, 57, 58, 59, 60, 61, 62, 63, 64, 65, 66, 67, 68, 69, 70, 71, 72, 73, 74, 75, 76, 77, 78, 79, 80, 81, 82, 83, 84, 85, 86, 87, 88, 89, 90, 91, 92, 93, 94, 95, 96, 97, 98, 99] (by kernel_rfl) a.ins.length (fun k e σ => e 31 = .int .i64 k ∧ σ.ob 0 = some ⟨0, 4, 33, false, true, [.agg [.int .i64 a.fr, .list 2 (bds a.st), .list 2 (bds a.ins), .list 2 (bds a.outs)]]⟩ ∧
    σ.ob 1 = some ⟨1, 4, 33, false, true, [.agg [.int .i64 t.fr, .list 2 (bds t.st), .list 2 (bds t.ins), .list 2 (bds t.outs)]]⟩ ∧ Tri σ (e 8) (e 9) (e 10) (mkI (k + 1) f) (mkI k f2) (mkI k f3) 2) ?_ ?_
  · refine ⟨(by first | ((try simp (maxSteps := 1000000) only [go_sem, Int.reduceEq, Int.reduceLT, Int.reduceLE, Int.reduceToNat, Nat.reduceLT, Nat.reduceEqDiff, Nat.reduceAdd, Nat.reduceLeDiff, Nat.reduceSub, Nat.reduceMul, ↓reduceIte, reduceCtorEq, w_app_nl]); done) | ((try simp (maxSteps := 1000000) only [go_sem, Int.reduceEq, Int.reduceLT, Int.reduceLE, Int.reduceToNat, Nat.reduceLT, Nat.reduceEqDiff, Nat.reduceAdd, Nat.reduceLeDiff, Nat.reduceSub, Nat.reduceMul, ↓reduceIte, reduceCtorEq, w_app_nl]); rfl) | ((try simp (maxSteps := 1000000) (disch := omega) only [go_sem, Int.reduceEq, Int.reduceLT, Int.reduceLE, Int.reduceToNat, Nat.reduceLT, Nat.reduceEqDiff, Nat.reduceAdd, Nat.reduceLeDiff, Nat.reduceSub, Nat.reduceMul, ↓reduceIte, reduceCtorEq, w_app_nl, wrap_id, w_ite_ne, w_ite_lt]); rfl) | (simp (maxSteps := 1000000) (disch := omega) only [go_sem, Int.reduceEq, Int.reduceLT, Int.reduceLE, Int.reduceToNat, Nat.reduceLT, Nat.reduceEqDiff, Nat.reduceAdd, Nat.reduceLeDiff, Nat.reduceSub, Nat.reduceMul, ↓reduceIte, reduceCtorEq, w_app_nl, wrap_id, w_ite_ne, w_ite_lt]; done)), (by first | ((try simp (maxSteps := 1000000) only [go_sem, Int.reduceEq, Int.reduceLT, Int.reduceLE, Int.reduceToNat, Nat.reduceLT, Nat.reduceEqDiff, Nat.reduceAdd, Nat.reduceLeDiff, Nat.reduceSub, Nat.reduceMul, ↓reduceIte, reduceCtorEq, w_app_nl]); done) | ((try simp (maxSteps := 1000000) only [go_sem, Int.reduceEq, Int.reduceLT, Int.reduceLE, Int.reduceToNat, Nat.reduceLT, Nat.reduceEqDiff, Nat.reduceAdd, Nat.reduceLeDiff, Nat.reduceSub, Nat.reduceMul, ↓reduceIte, reduceCtorEq, w_app_nl]); rfl) | ((try simp (maxSteps := 1000000) (disch := omega) only [go_sem, Int.reduceEq, Int.reduceLT, Int.reduceLE, Int.reduceToNat, Nat.reduceLT, Nat.reduceEqDiff, Nat.reduceAdd, Nat.reduceLeDiff, Nat.reduceSub, Nat.reduceMul, ↓reduceIte, reduceCtorEq, w_app_nl, wrap_id, w_ite_ne, w_ite_lt]); rfl) | (simp (maxSteps := 1000000) (disch := omega) only [go_sem, Int.reduceEq, Int.reduceLT, Int.reduceLE, Int.reduceToNat, Nat.reduceLT, Nat.reduceEqDiff, Nat.reduceAdd, Nat.reduceLeDiff, Nat.reduceSub, Nat.reduceMul, ↓reduceIte, reduceCtorEq, w_app_nl, wrap_id, w_ite_ne, w_ite_lt]; done)), (by first | ((try simp (maxSteps := 1000000) only [go_sem, Int.reduceEq, Int.reduceLT, Int.reduceLE, Int.reduceToNat, Nat.reduceLT, Nat.reduceEqDiff, Nat.reduceAdd, Nat.reduceLeDiff, Nat.reduceSub, Nat.reduceMul, ↓reduceIte, reduceCtorEq, w_app_nl]); done) | ((try simp (maxSteps := 1000000) only [go_sem, Int.reduceEq, Int.reduceLT, Int.reduceLE, Int.reduceToNat, Nat.reduceLT, Nat.reduceEqDiff, Nat.reduceAdd, Nat.reduceLeDiff, Nat.reduceSub, Nat.reduceMul, ↓reduceIte, reduceCtorEq, w_app_nl]); rfl) | ((try simp (maxSteps := 1000000) (disch := omega) only [go_sem, Int.reduceEq, Int.reduceLT, Int.reduceLE, Int.reduceToNat, Nat.reduceLT, Nat.reduceEqDiff, Nat.reduceAdd, Nat.reduceLeDiff, Nat.reduceSub, Nat.reduceMul, ↓reduceIte, reduceCtorEq, w_app_nl, wrap_id, w_ite_ne, w_ite_lt]); rfl) | (simp (maxSteps := 1000000) (disch := omega) only [go_sem, Int.reduceEq, Int.reduceLT, Int.reduceLE, Int.reduceToNat, Nat.reduceLT, Nat.reduceEqDiff, Nat.reduceAdd, Nat.reduceLeDiff, Nat.reduceSub, Nat.reduceMul, ↓reduceIte, reduceCtorEq, w_app_nl, wrap_id, w_ite_ne, w_ite_lt]; done)), ?_⟩
    try simp (maxSteps := 500000) (disch := omega) only [go_sem, Int.reduceEq, Int.reduceLT, Int.reduceLE, Int.reduceToNat, Nat.reduceLT, Nat.reduceEqDiff, Nat.reduceAdd, Nat.reduceLeDiff, Nat.reduceSub, Nat.reduceMul, ↓reduceIte, reduceCtorEq, wrap_id, w_ite_ne, w_ite_lt, Nat.sub_zero, Nat.sub_self]
    exact ⟨hI0.move (Nat.le_refl _) fun i hi hno => by
        have hi : i < 3 := hi
        have h2 : i = 2 := by
          rcases Nat.lt_or_ge i 2 with h | h
          · exact absurd (Oth.sl (by omega)) hno
          · omega
        subst h2; simp [upd], .nil, .nil, fun i hi => Oth.sl (by omega), fun i _ => Oth.nil i, fun i _ => Oth.nil i, (Dj.nil _).symm, (Dj.nil _).symm, Dj.nil _⟩
  rintro k fe ob m c hk hm ⟨h31, hob0, hob1, hT⟩
  simp (maxSteps := 1000000) only [go_sem, Int.reduceEq, Int.reduceLT, Int.reduceLE, Int.reduceToNat, Nat.reduceLT, Nat.reduceEqDiff, Nat.reduceAdd, Nat.reduceLeDiff, Nat.reduceSub, Nat.reduceMul, ↓reduceIte, reduceCtorEq, w_app_nl] at h31 hob0 hob1 hT hm
  obtain ⟨X8, h8⟩ : ∃ X, fe 8 = X := ⟨_, rfl⟩
  obtain ⟨X9, h9⟩ : ∃ X, fe 9 = X := ⟨_, rfl⟩
  obtain ⟨X10, h10⟩ : ∃ X, fe 10 = X := ⟨_, rfl⟩
  rw [h8, h9, h10] at hT
  try simp (maxSteps := 500000) (disch := omega) only [go_sem, Int.reduceEq, Int.reduceLT, Int.reduceLE, Int.reduceToNat, Nat.reduceLT, Nat.reduceEqDiff, Nat.reduceAdd, Nat.reduceLeDiff, Nat.reduceSub, Nat.reduceMul, ↓reduceIte, reduceCtorEq, wrap_id, w_ite_ne, w_ite_lt, Nat.sub_zero, Nat.sub_self, h31]
  refine cond_d (fun hlt => ?_) (fun hge => ?_)
  · have hkl : k < a.ins.length := by omega
    have e1 := gB_get (L := t.st) (i := k + 1) (by omega)
    have e3 := gB_get (L := a.ins) (i := k) (by omega)
    have e4 := gB_get (L := a.outs) (i := k) (by omega)
    have f3' := fit_bd (gB_fit hok.bi (i := k) (by omega))
    have f4' := fit_bd (gB_fit hok.bo (i := k) (by omega))
    have g1 := hst k (by omega)
    have g2 := hst (k + 1) (by omega)
    have g3 := htf (k + 1) (by omega)
    have g4 := hstep k
    have g5 := hcm k
    have g6 := hog k
    have g7 := hcb k hkl
    have hT0 := hT
    obtain ⟨r8, -⟩ := hT
    rcases r8 with ⟨-, hnil⟩ | ⟨id, g, rfl, hid, hidob⟩
    · simp [ints, mkI] at hnil
    simp only [ints_length, mkI_length] at h8 hT0 hidob
    have hid : id < m := hid
    have hid2 := hT0.id_le
    have z4 : ¬ 0 = id := by omega
    have z5 : ¬ 1 = id := by omega
    have e8 : (mkI (k + 1) f)[k]? = some (f k) := mkI_get f (by omega)
    try simp (maxSteps := 500000) (disch := omega) only [go_sem, Int.reduceEq, Int.reduceLT, Int.reduceLE, Int.reduceToNat, Nat.reduceLT, Nat.reduceEqDiff, Nat.reduceAdd, Nat.reduceLeDiff, Nat.reduceSub, Nat.reduceMul, ↓reduceIte, reduceCtorEq, wrap_id, w_ite_ne, w_ite_lt, Nat.sub_zero, Nat.sub_self, h31, h8, hob0, hob1, bds_length, bds_get, e1, e3, e4, Option.map_some, bdv, hidob, ints_length, mkI_length, ints_get, e8]
    refine ⟨by omega, by omega, by omega, by omega, by omega, by omega, by omega, by omega, ?_⟩
    rw [show ((k : Int) + 1).toNat = k + 1 by omega]
    try simp (maxSteps := 500000) (disch := omega) only [go_sem, Int.reduceEq, Int.reduceLT, Int.reduceLE, Int.reduceToNat, Nat.reduceLT, Nat.reduceEqDiff, Nat.reduceAdd, Nat.reduceLeDiff, Nat.reduceSub, Nat.reduceMul, ↓reduceIte, reduceCtorEq, wrap_id, w_ite_ne, w_ite_lt, Nat.sub_zero, Nat.sub_self, e1, bdv, Option.map_some, ← g4, hidob, ints_length, mkI_length, ints_get, e8, ← g5]
    try simp (maxSteps := 500000) (disch := omega) only [go_sem, Int.reduceEq, Int.reduceLT, Int.reduceLE, Int.reduceToNat, Nat.reduceLT, Nat.reduceEqDiff, Nat.reduceAdd, Nat.reduceLeDiff, Nat.reduceSub, Nat.reduceMul, ↓reduceIte, reduceCtorEq, wrap_id, w_ite_ne, w_ite_lt, Nat.sub_zero, Nat.sub_self, hob0, hob1, bds_length, bds_get, e1, e3, e4, Option.map_some, bdv, hidob, ints_length, mkI_length, ints_get, e8]
    refine ⟨by omega, by omega, by omega, by omega, by omega, by omega, ?_⟩
    have g8 : max (gB a.ins k).lo (f (k + 1) - f k + (gB a.outs k).lo) = f2 k := by omega
    try simp (maxSteps := 500000) (disch := omega) only [go_sem, Int.reduceEq, Int.reduceLT, Int.reduceLE, Int.reduceToNat, Nat.reduceLT, Nat.reduceEqDiff, Nat.reduceAdd, Nat.reduceLeDiff, Nat.reduceSub, Nat.reduceMul, ↓reduceIte, reduceCtorEq, wrap_id, w_ite_ne, w_ite_lt, Nat.sub_zero, Nat.sub_self, g8, hidob, ints_length, mkI_length, ints_get, e8]
    refine ⟨by rw [mxL]; omega, by omega, ?_⟩
    try simp (maxSteps := 500000) (disch := omega) only [go_sem, Int.reduceEq, Int.reduceLT, Int.reduceLE, Int.reduceToNat, Nat.reduceLT, Nat.reduceEqDiff, Nat.reduceAdd, Nat.reduceLeDiff, Nat.reduceSub, Nat.reduceMul, ↓reduceIte, reduceCtorEq, wrap_id, w_ite_ne, w_ite_lt, Nat.sub_zero, Nat.sub_self, hidob, h8, h9, h10, ints_length, mkI_length]
    refine ⟨by omega, by omega, ?_⟩
    have e9 : (mkI (k + 1 + 1) f)[k]? = some (f k) := mkI_get f (by omega)
    try simp (maxSteps := 500000) (disch := omega) only [go_sem, Int.reduceEq, Int.reduceLT, Int.reduceLE, Int.reduceToNat, Nat.reduceLT, Nat.reduceEqDiff, Nat.reduceAdd, Nat.reduceLeDiff, Nat.reduceSub, Nat.reduceMul, ↓reduceIte, reduceCtorEq, wrap_id, w_ite_ne, w_ite_lt, Nat.sub_zero, Nat.sub_self, ints_one, ← mkI_snoc, ints_get, e9, Option.map_some]
    have g9 : f k + f2 k - f (k + 1) = f3 k := by omega
    try simp (maxSteps := 500000) (disch := omega) only [go_sem, Int.reduceEq, Int.reduceLT, Int.reduceLE, Int.reduceToNat, Nat.reduceLT, Nat.reduceEqDiff, Nat.reduceAdd, Nat.reduceLeDiff, Nat.reduceSub, Nat.reduceMul, ↓reduceIte, reduceCtorEq, wrap_id, w_ite_ne, w_ite_lt, Nat.sub_zero, Nat.sub_self, g9, h9, h10]
    refine app9_triK (A := mkI (k + 1 + 1) f) (B := mkI k f2) (C := mkI k f3) (q := 2) (X8 := .sl id c 1 0 (k + 1 + 1)) (X10 := X10) ?_ (by simp only; omega) (by rw [mkI_length]; omega) (by omega) fun Y9 τ9 hT9 hK9 hf9 => ?_
    · rw [mkI_snoc (k + 1)]
      refine hT0.ren (by simp only; omega) hT0.id_le hid (by rw [mkI_length]) (by try simp (maxSteps := 500000) (disch := omega) only [go_sem, Int.reduceEq, Int.reduceLT, Int.reduceLE, Int.reduceToNat, Nat.reduceLT, Nat.reduceEqDiff, Nat.reduceAdd, Nat.reduceLeDiff, Nat.reduceSub, Nat.reduceMul, ↓reduceIte, reduceCtorEq, wrap_id, w_ite_ne, w_ite_lt, Nat.sub_zero, Nat.sub_self, ints_one]) fun i hi hne => ?_
      simp only at hi ⊢
      rw [upd_ne _ _ _ _ hne]
    have hn9 := hK9.1
    simp only at hn9 hf9
    rw [← mkI_snoc] at hT9
    have w0 := hf9 0 (by omega)
    have w1 := hf9 1 (by omega)
    try simp (maxSteps := 500000) (disch := omega) only [go_sem, Int.reduceEq, Int.reduceLT, Int.reduceLE, Int.reduceToNat, Nat.reduceLT, Nat.reduceEqDiff, Nat.reduceAdd, Nat.reduceLeDiff, Nat.reduceSub, Nat.reduceMul, ↓reduceIte, reduceCtorEq, wrap_id, w_ite_ne, w_ite_lt, Nat.sub_zero, Nat.sub_self, z4, hob0] at w0
    try simp (maxSteps := 500000) (disch := omega) only [go_sem, Int.reduceEq, Int.reduceLT, Int.reduceLE, Int.reduceToNat, Nat.reduceLT, Nat.reduceEqDiff, Nat.reduceAdd, Nat.reduceLeDiff, Nat.reduceSub, Nat.reduceMul, ↓reduceIte, reduceCtorEq, wrap_id, w_ite_ne, w_ite_lt, Nat.sub_zero, Nat.sub_self, z5, hob1] at w1
    have v9 := hK9.2.1 id hid hT0.d89.oth
    simp only [upd_same] at v9
    try simp (maxSteps := 500000) (disch := omega) only [go_sem, Int.reduceEq, Int.reduceLT, Int.reduceLE, Int.reduceToNat, Nat.reduceLT, Nat.reduceEqDiff, Nat.reduceAdd, Nat.reduceLeDiff, Nat.reduceSub, Nat.reduceMul, ↓reduceIte, reduceCtorEq, wrap_id, w_ite_ne, w_ite_lt, Nat.sub_zero, Nat.sub_self, h10]
    refine ⟨v9, ?_⟩
    refine app10_triK hT9 (by omega) (by rw [mkI_length]; omega) (by omega) fun Y10 τ10 hT10 hK10 hf10 => ?_
    have hn10 := hK10.1
    rw [← mkI_snoc] at hT10
    have w00 := (hf10 0 (by omega)).trans w0
    have w11 := (hf10 1 (by omega)).trans w1
    try simp (maxSteps := 500000) (disch := omega) only [go_sem, Int.reduceEq, Int.reduceLT, Int.reduceLE, Int.reduceToNat, Nat.reduceLT, Nat.reduceEqDiff, Nat.reduceAdd, Nat.reduceLeDiff, Nat.reduceSub, Nat.reduceMul, ↓reduceIte, reduceCtorEq, wrap_id, w_ite_ne, w_ite_lt, Nat.sub_zero, Nat.sub_self, h31]
    refine up_nextG τ10.n hkl (by omega) ⟨(by first | ((try simp (maxSteps := 1000000) only [go_sem, Int.reduceEq, Int.reduceLT, Int.reduceLE, Int.reduceToNat, Nat.reduceLT, Nat.reduceEqDiff, Nat.reduceAdd, Nat.reduceLeDiff, Nat.reduceSub, Nat.reduceMul, ↓reduceIte, reduceCtorEq, w_app_nl]); done) | ((try simp (maxSteps := 1000000) only [go_sem, Int.reduceEq, Int.reduceLT, Int.reduceLE, Int.reduceToNat, Nat.reduceLT, Nat.reduceEqDiff, Nat.reduceAdd, Nat.reduceLeDiff, Nat.reduceSub, Nat.reduceMul, ↓reduceIte, reduceCtorEq, w_app_nl]); rfl) | ((try simp (maxSteps := 1000000) (disch := omega) only [go_sem, Int.reduceEq, Int.reduceLT, Int.reduceLE, Int.reduceToNat, Nat.reduceLT, Nat.reduceEqDiff, Nat.reduceAdd, Nat.reduceLeDiff, Nat.reduceSub, Nat.reduceMul, ↓reduceIte, reduceCtorEq, w_app_nl, wrap_id, w_ite_ne, w_ite_lt]); rfl) | (simp (maxSteps := 1000000) (disch := omega) only [go_sem, Int.reduceEq, Int.reduceLT, Int.reduceLE, Int.reduceToNat, Nat.reduceLT, Nat.reduceEqDiff, Nat.reduceAdd, Nat.reduceLeDiff, Nat.reduceSub, Nat.reduceMul, ↓reduceIte, reduceCtorEq, w_app_nl, wrap_id, w_ite_ne, w_ite_lt]; done)), ?_, ?_, ?_⟩
    · simp only [St.trunc]; rw [if_pos (by omega)]; exact w00
    · simp only [St.trunc]; rw [if_pos (by omega)]; exact w11
    · try simp (maxSteps := 500000) (disch := omega) only [go_sem, Int.reduceEq, Int.reduceLT, Int.reduceLE, Int.reduceToNat, Nat.reduceLT, Nat.reduceEqDiff, Nat.reduceAdd, Nat.reduceLeDiff, Nat.reduceSub, Nat.reduceMul, ↓reduceIte, reduceCtorEq, wrap_id, w_ite_ne, w_ite_lt, Nat.sub_zero, Nat.sub_self]
      exact hT10.mv (Nat.le_refl _) fun i _ hi => by simp [St.trunc, hi]
  · try simp (maxSteps := 500000) (disch := omega) only [go_sem, Int.reduceEq, Int.reduceLT, Int.reduceLE, Int.reduceToNat, Nat.reduceLT, Nat.reduceEqDiff, Nat.reduceAdd, Nat.reduceLeDiff, Nat.reduceSub, Nat.reduceMul, ↓reduceIte, reduceCtorEq, wrap_id, w_ite_ne, w_ite_lt, Nat.sub_zero, Nat.sub_self, h8, h9, h10]
    obtain rfl : a.ins.length = k := by omega
    exact Pub.tu (.cons (hT.r8.pub (fun _ _ _ => rfl) (ints_pur _) (ints_ok _)) (.cons (hT.r9.pub (fun _ _ _ => rfl) (ints_pur _) (ints_ok _)) (.cons (hT.r10.pub (fun _ _ _ => rfl) (ints_pur _) (ints_ok _)) (.cons (.pure rfl) .nil))))
/-- A history as it is drawn. -/
structure Hst (n : Nat) (S I O : List Int) : Prop where
  ls : S.length = n + 1
  li : I.length = n
  lo : O.length = n
  s : ∀ i, i ≤ n → 0 ≤ S.getD i 0 ∧ S.getD i 0 ≤ 39 + 9 * (i : Int)
  i : ∀ i, i < n → 0 ≤ I.getD i 0 ∧ I.getD i 0 ≤ 9
  o : ∀ i, i < n → 0 ≤ O.getD i 0 ∧ O.getD i 0 ≤ 12
  bal : ∀ i, i < n → S.getD (i + 1) 0 = S.getD i 0 + I.getD i 0 - O.getD i 0
theorem getD_snl {L : List Int} {x : Int} {i : Nat} (h : i < L.length) : (L ++ [x]).getD i 0 = L.getD i 0 := by
  rw [List.getD_eq_getElem?_getD, List.getD_eq_getElem?_getD, List.getElem?_append_left h]
theorem getD_snr {L : List Int} {x : Int} {i : Nat} (h : i = L.length) : (L ++ [x]).getD i 0 = x := by
  subst h; simp [List.getD_eq_getElem?_getD]
theorem get_getD {L : List Int} {i : Nat} (h : i < L.length) : L[i]? = some (L.getD i 0) := by
  rw [List.getD_eq_getElem?_getD, List.getElem?_eq_getElem h]; rfl
theorem Hst.one {x : Int} (h : 0 ≤ x) (h2 : x ≤ 39) : Hst 0 [x] [] [] :=
  ⟨rfl, rfl, rfl, fun i hi => by obtain rfl : i = 0 := by omega
                                 simp; omega, fun i hi => by omega, fun i hi => by omega, fun i hi => by omega⟩
theorem Hst.snoc {n : Nat} {S I O : List Int} (h : Hst n S I O) {x y a : Int} (ha : a = S.getD n 0) (hx : 0 ≤ x ∧ x ≤ 9) (hy : 0 ≤ y ∧ y ≤ 12) (hd : y ≤ a + x) : Hst (n + 1) (S ++ [a + x - y]) (I ++ [x]) (O ++ [y]) := by
  subst ha
  have h1 := h.ls
  have h2 := h.li
  have h3 := h.lo
  refine ⟨by simp [h1], by simp [h2], by simp [h3], fun i hi => ?_, fun i hi => ?_, fun i hi => ?_, fun i hi => ?_⟩
  · rcases Nat.lt_or_ge i (n + 1) with hh | hh
    · rw [getD_snl (by omega)]; exact h.s i (by omega)
    · rw [getD_snr (by omega)]; have := h.s n (by omega); omega
  · rcases Nat.lt_or_ge i n with hh | hh
    · rw [getD_snl (by omega)]; exact h.i i hh
    · rw [getD_snr (by omega)]; exact hx
  · rcases Nat.lt_or_ge i n with hh | hh
    · rw [getD_snl (by omega)]; exact h.o i hh
    · rw [getD_snr (by omega)]; exact hy
  · rcases Nat.lt_or_ge i n with hh | hh
    · rw [getD_snl (by omega), getD_snl (by omega), getD_snl (by omega), getD_snl (by omega)]; exact h.bal i hh
    · obtain rfl : i = n := by omega
      rw [getD_snr (by omega), getD_snl (by omega), getD_snr (by omega), getD_snr (by omega)]
theorem SlR.at {es : Nat} {ty : TypeId} {σ : St} {L : List AV} {id g n : Nat} (h : SlR es ty σ L (.sl id g es 0 n)) : id < σ.n ∧ n = L.length ∧ σ.ob id = some ⟨g, es, ty, false, true, L⟩ := by
  rcases h with ⟨h, _⟩ | ⟨id, g, h, h2, h3⟩
  · cases h
  · cases h; exact ⟨h2, rfl, h3⟩
theorem hc_flow_History (σ : St) (id g : Nat) (t : List Int) (at' : Nat) (hl : t.length ≤ 9223372036854775807) (hid : id < σ.n) (hob : σ.ob id = some ⟨g, 2, ty_Deck, false, true, [deckV t at']⟩) :
    HC prog n_flow_History [.ptr id g 2 0 0] σ (DeckR σ id g t fun r => ∃ n S I O, r = .tuple [.list 1 (ints S), .list 1 (ints I), .list 1 (ints O)] ∧ Hst n S I O ∧ 1 ≤ n ∧ n ≤ 5) := by
  refine HC.deck hid ?_
  obtain ⟨ob0, n0, c0⟩ := σ
  simp only at hob hid
  refine HC_of_body b_flow_History (by simp) ?_
  simp only [c_flow_History, go_sem, Int.reduceEq, Int.reduceLT, Int.reduceLE, Int.reduceToNat, Nat.reduceLT, Nat.reduceEqDiff, Nat.reduceAdd, Nat.reduceLeDiff, Nat.reduceSub, Nat.reduceMul, ↓reduceIte, reduceCtorEq, w_app_nl]
  have h0 : ¬ id = n0 := by omega
  have h1 : ¬ id = n0 + 1 := by omega
  have h2 : ¬ n0 = id := by omega
  refine call_hc (ok_mk_Deck_Next _ id g ty_Deck true t at' 40 (by try simp (maxSteps := 500000) (disch := omega) only [go_sem, Int.reduceEq, Int.reduceLT, Int.reduceLE, Int.reduceToNat, Nat.reduceLT, Nat.reduceEqDiff, Nat.reduceAdd, Nat.reduceLeDiff, Nat.reduceSub, Nat.reduceMul, ↓reduceIte, reduceCtorEq, wrap_id, w_ite_ne, w_ite_lt, Nat.sub_zero, Nat.sub_self]; exact hob) (by omega) hl) ?_
  have hx1 := deckR_bd t at' 40
  generalize deckR t at' 40 = dr at *
  obtain ⟨x1, at1⟩ := dr
  simp only at hx1
  try simp (maxSteps := 500000) (disch := omega) only [go_sem, Int.reduceEq, Int.reduceLT, Int.reduceLE, Int.reduceToNat, Nat.reduceLT, Nat.reduceEqDiff, Nat.reduceAdd, Nat.reduceLeDiff, Nat.reduceSub, Nat.reduceMul, ↓reduceIte, reduceCtorEq, wrap_id, w_ite_ne, w_ite_lt, Nat.sub_zero, Nat.sub_self, h0, h1]
  refine call_hc (ok_mk_Deck_Next _ id g ty_Deck true t at1 5 (by try simp (maxSteps := 500000) (disch := omega) only [go_sem, Int.reduceEq, Int.reduceLT, Int.reduceLE, Int.reduceToNat, Nat.reduceLT, Nat.reduceEqDiff, Nat.reduceAdd, Nat.reduceLeDiff, Nat.reduceSub, Nat.reduceMul, ↓reduceIte, reduceCtorEq, wrap_id, w_ite_ne, w_ite_lt, Nat.sub_zero, Nat.sub_self, h0, h1]) (by omega) hl) ?_
  have hx2 := deckR_bd t at1 5
  generalize deckR t at1 5 = dr at *
  obtain ⟨x2, at2⟩ := dr
  simp only at hx2
  try simp (maxSteps := 500000) (disch := omega) only [go_sem, Int.reduceEq, Int.reduceLT, Int.reduceLE, Int.reduceToNat, Nat.reduceLT, Nat.reduceEqDiff, Nat.reduceAdd, Nat.reduceLeDiff, Nat.reduceSub, Nat.reduceMul, ↓reduceIte, reduceCtorEq, wrap_id, w_ite_ne, w_ite_lt, Nat.sub_zero, Nat.sub_self, h0, h1]
  obtain ⟨K, hK⟩ : ∃ K : Nat, (K : Int) = x2 ∧ K ≤ 4 := ⟨x2.toNat, by omega, by omega⟩
  obtain ⟨rfl, hK⟩ := hK
  have hx : 0 ≤ x1 ∧ x1 ≤ 39 := by omega
  refine awp_upG [5, 6, 7, 8, 9, 10, 11, 17, 18, 19, 20, 21, 22, 23, 24, 25, 26, 27, 28, 29, 30, 31, 32, 33, 34, 35, 36, 37, 38, 39, 40, 41, 42, 43, 44, 45, 46, 47, 48, 49, 50, 51] (by kernel_rfl) (K + 1) (fun k e σ => e 8 = .int .i64 ((K : Int) - k) ∧ (∃ a, σ.ob id = some ⟨g, 2, ty_Deck, false, true, [deckV t a]⟩) ∧ (∀ i, i < n0 → i ≠ id → σ.ob i = ob0 i) ∧ ∃ S I O, Hst k S I O ∧ Tri σ (e 5) (e 6) (e 7) S I O n0) ?_ ?_
  · refine ⟨(by first | ((try simp (maxSteps := 1000000) only [go_sem, Int.reduceEq, Int.reduceLT, Int.reduceLE, Int.reduceToNat, Nat.reduceLT, Nat.reduceEqDiff, Nat.reduceAdd, Nat.reduceLeDiff, Nat.reduceSub, Nat.reduceMul, ↓reduceIte, reduceCtorEq, w_app_nl]); done) | ((try simp (maxSteps := 1000000) only [go_sem, Int.reduceEq, Int.reduceLT, Int.reduceLE, Int.reduceToNat, Nat.reduceLT, Nat.reduceEqDiff, Nat.reduceAdd, Nat.reduceLeDiff, Nat.reduceSub, Nat.reduceMul, ↓reduceIte, reduceCtorEq, w_app_nl]); rfl) | ((try simp (maxSteps := 1000000) (disch := omega) only [go_sem, Int.reduceEq, Int.reduceLT, Int.reduceLE, Int.reduceToNat, Nat.reduceLT, Nat.reduceEqDiff, Nat.reduceAdd, Nat.reduceLeDiff, Nat.reduceSub, Nat.reduceMul, ↓reduceIte, reduceCtorEq, w_app_nl, wrap_id, w_ite_ne, w_ite_lt]); rfl) | (simp (maxSteps := 1000000) (disch := omega) only [go_sem, Int.reduceEq, Int.reduceLT, Int.reduceLE, Int.reduceToNat, Nat.reduceLT, Nat.reduceEqDiff, Nat.reduceAdd, Nat.reduceLeDiff, Nat.reduceSub, Nat.reduceMul, ↓reduceIte, reduceCtorEq, w_app_nl, wrap_id, w_ite_ne, w_ite_lt]; done)), ⟨at2, by try simp (maxSteps := 500000) (disch := omega) only [go_sem, Int.reduceEq, Int.reduceLT, Int.reduceLE, Int.reduceToNat, Nat.reduceLT, Nat.reduceEqDiff, Nat.reduceAdd, Nat.reduceLeDiff, Nat.reduceSub, Nat.reduceMul, ↓reduceIte, reduceCtorEq, wrap_id, w_ite_ne, w_ite_lt, Nat.sub_zero, Nat.sub_self, h0]⟩, fun i hi hne => ?_, [x1], [], [], Hst.one hx.1 hx.2, ?_⟩
    · have : ¬ i = n0 := by omega
      try simp (maxSteps := 500000) (disch := omega) only [go_sem, Int.reduceEq, Int.reduceLT, Int.reduceLE, Int.reduceToNat, Nat.reduceLT, Nat.reduceEqDiff, Nat.reduceAdd, Nat.reduceLeDiff, Nat.reduceSub, Nat.reduceMul, ↓reduceIte, reduceCtorEq, wrap_id, w_ite_ne, w_ite_lt, Nat.sub_zero, Nat.sub_self, hne, this]
    · try simp (maxSteps := 500000) (disch := omega) only [go_sem, Int.reduceEq, Int.reduceLT, Int.reduceLE, Int.reduceToNat, Nat.reduceLT, Nat.reduceEqDiff, Nat.reduceAdd, Nat.reduceLeDiff, Nat.reduceSub, Nat.reduceMul, ↓reduceIte, reduceCtorEq, wrap_id, w_ite_ne, w_ite_lt, Nat.sub_zero, Nat.sub_self]
      exact ⟨.inr ⟨n0, c0, rfl, by simp only; omega, by simp [upd, ints, h2]⟩, .nil, .nil, fun i hi => Oth.sl (by omega), fun i _ => Oth.nil i, fun i _ => Oth.nil i, (Dj.nil _).symm, (Dj.nil _).symm, Dj.nil _⟩
  rintro k fe ob m c hk hm ⟨h8, ⟨at3, hd⟩, hfr, S, I, O, hH, hT⟩
  simp (maxSteps := 1000000) only [go_sem, Int.reduceEq, Int.reduceLT, Int.reduceLE, Int.reduceToNat, Nat.reduceLT, Nat.reduceEqDiff, Nat.reduceAdd, Nat.reduceLeDiff, Nat.reduceSub, Nat.reduceMul, ↓reduceIte, reduceCtorEq, w_app_nl] at h8 hd hfr hT hm
  obtain ⟨X5, h5⟩ : ∃ X, fe 5 = X := ⟨_, rfl⟩
  obtain ⟨X6, h6⟩ : ∃ X, fe 6 = X := ⟨_, rfl⟩
  obtain ⟨X7, h7⟩ : ∃ X, fe 7 = X := ⟨_, rfl⟩
  rw [h5, h6, h7] at hT
  try simp (maxSteps := 500000) (disch := omega) only [go_sem, Int.reduceEq, Int.reduceLT, Int.reduceLE, Int.reduceToNat, Nat.reduceLT, Nat.reduceEqDiff, Nat.reduceAdd, Nat.reduceLeDiff, Nat.reduceSub, Nat.reduceMul, ↓reduceIte, reduceCtorEq, wrap_id, w_ite_ne, w_ite_lt, Nat.sub_zero, Nat.sub_self, h8]
  refine cond_d (fun hge => ?_) (fun hlt => ?_)
  · have hkl : k < K + 1 := by omega
    try simp (maxSteps := 500000) (disch := omega) only [go_sem, Int.reduceEq, Int.reduceLT, Int.reduceLE, Int.reduceToNat, Nat.reduceLT, Nat.reduceEqDiff, Nat.reduceAdd, Nat.reduceLeDiff, Nat.reduceSub, Nat.reduceMul, ↓reduceIte, reduceCtorEq, wrap_id, w_ite_ne, w_ite_lt, Nat.sub_zero, Nat.sub_self]
    refine call_hc (ok_mk_Deck_Next _ id g ty_Deck true t at3 10 hd (by omega) hl) ?_
    have hx4 := deckR_bd t at3 10
    generalize deckR t at3 10 = dr at *
    obtain ⟨x, at4⟩ := dr
    simp only at hx4
    have hq1 := hT.o8 id hid
    have r8 := hT.r8
    rcases r8 with ⟨-, hnil⟩ | ⟨id8, g8, rfl, hid8, hidob⟩
    · have := hH.ls; have h9 := ints_length S; rw [hnil] at h9; simp at h9; omega
    have e1 : ¬ id8 = id := hq1.ne
    have hS := hH.ls
    have hlen : (ints S).length = k + 1 := by rw [ints_length, hS]
    rw [hlen] at h5 hT
    simp only at hidob
    try simp (maxSteps := 500000) (disch := omega) only [go_sem, Int.reduceEq, Int.reduceLT, Int.reduceLE, Int.reduceToNat, Nat.reduceLT, Nat.reduceEqDiff, Nat.reduceAdd, Nat.reduceLeDiff, Nat.reduceSub, Nat.reduceMul, ↓reduceIte, reduceCtorEq, wrap_id, w_ite_ne, w_ite_lt, Nat.sub_zero, Nat.sub_self, h5, h0, h1]
    rw [show ((k + 1 : Nat) : Int) - 1 = (k : Int) by omega]
    have e2 : S[k]? = some (S.getD k 0) := get_getD (by omega)
    have hs := hH.s k (by omega)
    try simp (maxSteps := 500000) (disch := omega) only [go_sem, Int.reduceEq, Int.reduceLT, Int.reduceLE, Int.reduceToNat, Nat.reduceLT, Nat.reduceEqDiff, Nat.reduceAdd, Nat.reduceLeDiff, Nat.reduceSub, Nat.reduceMul, ↓reduceIte, reduceCtorEq, wrap_id, w_ite_ne, w_ite_lt, Nat.sub_zero, Nat.sub_self, e1, hidob, ints_get, e2, Option.map_some]
    refine ⟨by omega, by omega, ?_⟩
    refine call_hc (ok_mk_Deck_Next _ id g ty_Deck true t at4 _ (by try simp (maxSteps := 500000) (disch := omega) only [go_sem, Int.reduceEq, Int.reduceLT, Int.reduceLE, Int.reduceToNat, Nat.reduceLT, Nat.reduceEqDiff, Nat.reduceAdd, Nat.reduceLeDiff, Nat.reduceSub, Nat.reduceMul, ↓reduceIte, reduceCtorEq, wrap_id, w_ite_ne, w_ite_lt, Nat.sub_zero, Nat.sub_self]) (by omega) hl) ?_
    have hx5 := deckR_bd t at4 (min (S.getD k 0 + x) 12 + 1)
    generalize deckR t at4 (min (S.getD k 0 + x) 12 + 1) = dr at *
    obtain ⟨y, at5⟩ := dr
    simp only at hx5
    have hy : 0 ≤ y ∧ y ≤ 12 ∧ y ≤ S.getD k 0 + x := by omega
    have hH2 := hH.snoc (x := x) (y := y) rfl (by omega) (by omega) hy.2.2
    have hI := hH.li
    have hO := hH.lo
    try simp (maxSteps := 500000) (disch := omega) only [go_sem, Int.reduceEq, Int.reduceLT, Int.reduceLE, Int.reduceToNat, Nat.reduceLT, Nat.reduceEqDiff, Nat.reduceAdd, Nat.reduceLeDiff, Nat.reduceSub, Nat.reduceMul, ↓reduceIte, reduceCtorEq, wrap_id, w_ite_ne, w_ite_lt, Nat.sub_zero, Nat.sub_self, h6]
    refine app9_triK (q := n0) (A := S) (B := I) (C := O) (X8 := .sl id8 g8 1 0 (k + 1)) (X10 := X7) (hT.mv (Nat.le_refl _) fun i hi _ => ?_) (by simp only; omega) (by omega) (by omega) fun Y6 τ6 hT6 hK6 hf6 => ?_
    · simp only; rw [upd_ne _ _ _ _ (by omega), upd_ne _ _ _ _ (by omega)]
    have hn6 := hK6.1
    simp only at hn6
    try simp (maxSteps := 500000) (disch := omega) only [go_sem, Int.reduceEq, Int.reduceLT, Int.reduceLE, Int.reduceToNat, Nat.reduceLT, Nat.reduceEqDiff, Nat.reduceAdd, Nat.reduceLeDiff, Nat.reduceSub, Nat.reduceMul, ↓reduceIte, reduceCtorEq, wrap_id, w_ite_ne, w_ite_lt, Nat.sub_zero, Nat.sub_self, h7]
    refine app10_triK (b := 8) hT6 (by omega) (by omega) (by omega) fun Y7 τ7 hT7 hK7 hf7 => ?_
    have hn7 := hK7.1
    obtain ⟨q1, q2, q3⟩ := hT7.r8.at
    try simp (maxSteps := 500000) (disch := omega) only [go_sem, Int.reduceEq, Int.reduceLT, Int.reduceLE, Int.reduceToNat, Nat.reduceLT, Nat.reduceEqDiff, Nat.reduceAdd, Nat.reduceLeDiff, Nat.reduceSub, Nat.reduceMul, ↓reduceIte, reduceCtorEq, wrap_id, w_ite_ne, w_ite_lt, Nat.sub_zero, Nat.sub_self, h5, q3, hlen]
    refine ⟨by rw [mxL]; omega, by omega, ?_⟩
    have hT5 : Tri (τ7.renew id8 ⟨g8, 1, 3, false, true, ints S⟩ (ints S ++ [.int .i64 (S.getD k 0 + x - y)])) (.sl id8 τ7.c 1 0 (k + 1 + 1)) Y6 Y7 (S ++ [S.getD k 0 + x - y]) (I ++ [x]) (O ++ [y]) n0 :=
      hT7.ren (Nat.le_refl _) hT7.id_le q1 (by omega) (by simp [St.renew, upd]) fun i _ hne => by simp only [St.renew]; rw [upd_ne _ _ _ _ hne]
    have hn5 : τ7.n ≤ (τ7.renew id8 ⟨g8, 1, 3, false, true, ints S⟩ (ints S ++ [.int .i64 (S.getD k 0 + x - y)])).n := Nat.le_refl _
    have hf5 : ∀ i, i < n0 → (τ7.renew id8 ⟨g8, 1, 3, false, true, ints S⟩ (ints S ++ [.int .i64 (S.getD k 0 + x - y)])).ob i = τ7.ob i := fun i hi => by
      have := hT7.id_le
      simp only [St.renew]; rw [upd_ne _ _ _ _ (by omega)]
    generalize τ7.renew id8 ⟨g8, 1, 3, false, true, ints S⟩ (ints S ++ [.int .i64 (S.getD k 0 + x - y)]) = τ5 at *
    have hF : ∀ i, i < n0 → τ5.ob i = (if i = id then some ⟨g, 2, ty_Deck, false, true, [deckV t at5]⟩ else ob i) := fun i hi => by
      rw [hf5 i hi, hf7 i hi, hf6 i hi]
      simp only [upd]
      split <;> rfl
    try simp (maxSteps := 500000) (disch := omega) only [go_sem, Int.reduceEq, Int.reduceLT, Int.reduceLE, Int.reduceToNat, Nat.reduceLT, Nat.reduceEqDiff, Nat.reduceAdd, Nat.reduceLeDiff, Nat.reduceSub, Nat.reduceMul, ↓reduceIte, reduceCtorEq, wrap_id, w_ite_ne, w_ite_lt, Nat.sub_zero, Nat.sub_self, h8]
    refine up_nextG τ5.n hkl (by omega) ⟨by try simp (maxSteps := 500000) (disch := omega) only [go_sem, Int.reduceEq, Int.reduceLT, Int.reduceLE, Int.reduceToNat, Nat.reduceLT, Nat.reduceEqDiff, Nat.reduceAdd, Nat.reduceLeDiff, Nat.reduceSub, Nat.reduceMul, ↓reduceIte, reduceCtorEq, wrap_id, w_ite_ne, w_ite_lt, Nat.sub_zero, Nat.sub_self]; congr 1; omega, ⟨at5, ?_⟩, fun i hi hne => ?_, _, _, _, hH2, ?_⟩
    · simp only [St.trunc]; rw [if_pos (by omega), hF id hid, if_pos rfl]
    · simp only [St.trunc]; rw [if_pos (by omega), hF i hi, if_neg hne]; exact hfr i hi hne
    · try simp (maxSteps := 500000) (disch := omega) only [go_sem, Int.reduceEq, Int.reduceLT, Int.reduceLE, Int.reduceToNat, Nat.reduceLT, Nat.reduceEqDiff, Nat.reduceAdd, Nat.reduceLeDiff, Nat.reduceSub, Nat.reduceMul, ↓reduceIte, reduceCtorEq, wrap_id, w_ite_ne, w_ite_lt, Nat.sub_zero, Nat.sub_self]
      exact hT5.mv (Nat.le_refl _) fun i _ hi => by simp [St.trunc, hi]
  · try simp (maxSteps := 500000) (disch := omega) only [go_sem, Int.reduceEq, Int.reduceLT, Int.reduceLE, Int.reduceToNat, Nat.reduceLT, Nat.reduceEqDiff, Nat.reduceAdd, Nat.reduceLeDiff, Nat.reduceSub, Nat.reduceMul, ↓reduceIte, reduceCtorEq, wrap_id, w_ite_ne, w_ite_lt, Nat.sub_zero, Nat.sub_self, h5, h6, h7]
    refine ⟨_, at3, Pub.tu (.cons (hT.r8.pub (fun i hi hno => ?_) (ints_pur _) (ints_ok _)) (.cons (hT.r9.pub (fun i hi hno => ?_) (ints_pur _) (ints_ok _)) (.cons (hT.r10.pub (fun i hi hno => ?_) (ints_pur _) (ints_ok _)) .nil))), ⟨k, S, I, O, rfl, hH, by omega, by omega⟩, hd, hfr⟩
    · simp only; rw [if_neg fun h => hno (hT.o8 i h)]
    · simp only; rw [if_neg fun h => hno (hT.o9 i h)]
    · simp only; rw [if_neg fun h => hno (hT.o10 i h)]
/-- Bounds drawn around a number. -/
def arB (x : Int) (b : Bd) : Prop := 0 ≤ b.lo ∧ b.lo ≤ x ∧ x ≤ b.hi ∧ b.hi ≤ x + 30
structure ArL (L : List Int) (B : List Bd) : Prop where
  ln : B.length = L.length
  b : ∀ i, i < L.length → arB (L.getD i 0) (gB B i)
theorem gB_snl {L : List Bd} {x : Bd} {i : Nat} (h : i < L.length) : gB (L ++ [x]) i = gB L i := by
  simp only [gB, List.getD_eq_getElem?_getD, List.getElem?_append_left h]
theorem gB_snr {L : List Bd} {x : Bd} {i : Nat} (h : i = L.length) : gB (L ++ [x]) i = x := by
  subst h; simp [gB, List.getD_eq_getElem?_getD]
theorem take_snoc {L : List Int} {k : Nat} (h : k < L.length) : L.take (k + 1) = L.take k ++ [L.getD k 0] := by
  rw [List.take_add_one, get_getD h]; rfl
theorem getD_take {L : List Int} {k i : Nat} (h : i < k) : (L.take k).getD i 0 = L.getD i 0 := by
  simp [List.getD_eq_getElem?_getD, List.getElem?_take, h]
theorem ArL.nil : ArL [] [] := ⟨rfl, fun i hi => by simp at hi⟩
theorem ArL.snoc {L : List Int} {B : List Bd} (h : ArL L B) {x : Int} {b : Bd} (hb : arB x b) : ArL (L ++ [x]) (B ++ [b]) := by
  have h1 := h.ln
  refine ⟨by simp [h1], fun i hi => ?_⟩
  rcases Nat.lt_or_ge i L.length with hh | hh
  · rw [getD_snl hh, gB_snl (by omega)]; exact h.b i hh
  · simp only [List.length_append, List.length_cons, List.length_nil] at hi
    rw [getD_snr (by omega), gB_snr (by omega)]; exact hb
theorem hc_flow_Bounds (σ : St) (id g : Nat) (t : List Int) (at' : Nat) (x : Int) (hl : t.length ≤ 9223372036854775807) (hid : id < σ.n) (hob : σ.ob id = some ⟨g, 2, ty_Deck, false, true, [deckV t at']⟩) (hx0 : 0 ≤ x) (hx1 : x ≤ 1000) :
    HC prog n_flow_Bounds [.ptr id g 2 0 0, .int .i64 x] σ (DeckR σ id g t fun r => ∃ b, r = bdv b ∧ arB x b) := by
  refine HC.deck hid ?_
  obtain ⟨ob0, n0, c0⟩ := σ
  simp only at hob hid
  refine HC_of_body b_flow_Bounds (by simp) ?_
  simp only [c_flow_Bounds, go_sem, Int.reduceEq, Int.reduceLT, Int.reduceLE, Int.reduceToNat, Nat.reduceLT, Nat.reduceEqDiff, Nat.reduceAdd, Nat.reduceLeDiff, Nat.reduceSub, Nat.reduceMul, ↓reduceIte, reduceCtorEq, w_app_nl]
  have h0 : ¬ id = n0 := by omega
  have h2 : ¬ n0 = id := by omega
  have fin : ∀ (ob' : Nat → Option AObj) (c' : Nat) (b : Bd) (at2 : Nat), ob' id = some ⟨g, 2, ty_Deck, false, true, [deckV t at2]⟩ → arB x b → (∀ i, i < n0 → i ≠ id → ob' i = ob0 i) → Deck0 ⟨ob0, n0, c0⟩ id g t (fun r => ∃ b, r = bdv b ∧ arB x b) (.agg [.int .i64 b.lo, .int .i64 b.hi]) ⟨ob', n0 + 1, c'⟩ :=
    fun ob' c' b at2 h1 h2 h3 => ⟨_, at2, .pure rfl, ⟨b, rfl, h2⟩, h1, h3⟩
  refine call_hc (ok_mk_Deck_Next _ id g ty_Deck true t at' 4 (by try simp (maxSteps := 500000) (disch := omega) only [go_sem, Int.reduceEq, Int.reduceLT, Int.reduceLE, Int.reduceToNat, Nat.reduceLT, Nat.reduceEqDiff, Nat.reduceAdd, Nat.reduceLeDiff, Nat.reduceSub, Nat.reduceMul, ↓reduceIte, reduceCtorEq, wrap_id, w_ite_ne, w_ite_lt, Nat.sub_zero, Nat.sub_self, h0]; exact hob) (by omega) hl) ?_
  have hy1 := deckR_bd t at' 4
  generalize deckR t at' 4 = dr at *
  obtain ⟨x1, at1⟩ := dr
  try simp (maxSteps := 500000) (disch := omega) only [go_sem, Int.reduceEq, Int.reduceLT, Int.reduceLE, Int.reduceToNat, Nat.reduceLT, Nat.reduceEqDiff, Nat.reduceAdd, Nat.reduceLeDiff, Nat.reduceSub, Nat.reduceMul, ↓reduceIte, reduceCtorEq, wrap_id, w_ite_ne, w_ite_lt, Nat.sub_zero, Nat.sub_self, h0, h2]
  refine cond_d (fun g1 => ?_) (fun g1 => ?_)
  · try simp (maxSteps := 500000) (disch := omega) only [go_sem, Int.reduceEq, Int.reduceLT, Int.reduceLE, Int.reduceToNat, Nat.reduceLT, Nat.reduceEqDiff, Nat.reduceAdd, Nat.reduceLeDiff, Nat.reduceSub, Nat.reduceMul, ↓reduceIte, reduceCtorEq, wrap_id, w_ite_ne, w_ite_lt, Nat.sub_zero, Nat.sub_self, h0, h2]
    exact fin _ _ ⟨x, x⟩ at1 (by try simp (maxSteps := 500000) (disch := omega) only [go_sem, Int.reduceEq, Int.reduceLT, Int.reduceLE, Int.reduceToNat, Nat.reduceLT, Nat.reduceEqDiff, Nat.reduceAdd, Nat.reduceLeDiff, Nat.reduceSub, Nat.reduceMul, ↓reduceIte, reduceCtorEq, wrap_id, w_ite_ne, w_ite_lt, Nat.sub_zero, Nat.sub_self, h0]) (by simp only [arB]; omega) (fun i hi hi2 => by
      have j0 : ¬ i = n0 := by omega
      try simp (maxSteps := 500000) (disch := omega) only [go_sem, Int.reduceEq, Int.reduceLT, Int.reduceLE, Int.reduceToNat, Nat.reduceLT, Nat.reduceEqDiff, Nat.reduceAdd, Nat.reduceLeDiff, Nat.reduceSub, Nat.reduceMul, ↓reduceIte, reduceCtorEq, wrap_id, w_ite_ne, w_ite_lt, Nat.sub_zero, Nat.sub_self, j0, hi2])
  try simp (maxSteps := 500000) (disch := omega) only [go_sem, Int.reduceEq, Int.reduceLT, Int.reduceLE, Int.reduceToNat, Nat.reduceLT, Nat.reduceEqDiff, Nat.reduceAdd, Nat.reduceLeDiff, Nat.reduceSub, Nat.reduceMul, ↓reduceIte, reduceCtorEq, wrap_id, w_ite_ne, w_ite_lt, Nat.sub_zero, Nat.sub_self, h0, h2]
  refine cond_d (fun g2 => ?_) (fun g2 => ?_)
  · try simp (maxSteps := 500000) (disch := omega) only [go_sem, Int.reduceEq, Int.reduceLT, Int.reduceLE, Int.reduceToNat, Nat.reduceLT, Nat.reduceEqDiff, Nat.reduceAdd, Nat.reduceLeDiff, Nat.reduceSub, Nat.reduceMul, ↓reduceIte, reduceCtorEq, wrap_id, w_ite_ne, w_ite_lt, Nat.sub_zero, Nat.sub_self, h0, h2]
    refine call_hc (ok_mk_Deck_Next _ id g ty_Deck true t at1 30 (by try simp (maxSteps := 500000) (disch := omega) only [go_sem, Int.reduceEq, Int.reduceLT, Int.reduceLE, Int.reduceToNat, Nat.reduceLT, Nat.reduceEqDiff, Nat.reduceAdd, Nat.reduceLeDiff, Nat.reduceSub, Nat.reduceMul, ↓reduceIte, reduceCtorEq, wrap_id, w_ite_ne, w_ite_lt, Nat.sub_zero, Nat.sub_self, h0]) (by omega) hl) ?_
    have hy2 := deckR_bd t at1 30
    generalize deckR t at1 30 = dr at *
    obtain ⟨x2, at2⟩ := dr
    simp only at hy2
    try simp (maxSteps := 500000) (disch := omega) only [go_sem, Int.reduceEq, Int.reduceLT, Int.reduceLE, Int.reduceToNat, Nat.reduceLT, Nat.reduceEqDiff, Nat.reduceAdd, Nat.reduceLeDiff, Nat.reduceSub, Nat.reduceMul, ↓reduceIte, reduceCtorEq, wrap_id, w_ite_ne, w_ite_lt, Nat.sub_zero, Nat.sub_self, h0, h2]
    exact fin _ _ ⟨0, x + x2⟩ at2 (by try simp (maxSteps := 500000) (disch := omega) only [go_sem, Int.reduceEq, Int.reduceLT, Int.reduceLE, Int.reduceToNat, Nat.reduceLT, Nat.reduceEqDiff, Nat.reduceAdd, Nat.reduceLeDiff, Nat.reduceSub, Nat.reduceMul, ↓reduceIte, reduceCtorEq, wrap_id, w_ite_ne, w_ite_lt, Nat.sub_zero, Nat.sub_self, h0]) (by simp only [arB]; omega) (fun i hi hi2 => by
      have j0 : ¬ i = n0 := by omega
      try simp (maxSteps := 500000) (disch := omega) only [go_sem, Int.reduceEq, Int.reduceLT, Int.reduceLE, Int.reduceToNat, Nat.reduceLT, Nat.reduceEqDiff, Nat.reduceAdd, Nat.reduceLeDiff, Nat.reduceSub, Nat.reduceMul, ↓reduceIte, reduceCtorEq, wrap_id, w_ite_ne, w_ite_lt, Nat.sub_zero, Nat.sub_self, j0, hi2])
  try simp (maxSteps := 500000) (disch := omega) only [go_sem, Int.reduceEq, Int.reduceLT, Int.reduceLE, Int.reduceToNat, Nat.reduceLT, Nat.reduceEqDiff, Nat.reduceAdd, Nat.reduceLeDiff, Nat.reduceSub, Nat.reduceMul, ↓reduceIte, reduceCtorEq, wrap_id, w_ite_ne, w_ite_lt, Nat.sub_zero, Nat.sub_self, h0, h2]
  refine call_hc (ok_mk_Deck_Next _ id g ty_Deck true t at1 _ (by try simp (maxSteps := 500000) (disch := omega) only [go_sem, Int.reduceEq, Int.reduceLT, Int.reduceLE, Int.reduceToNat, Nat.reduceLT, Nat.reduceEqDiff, Nat.reduceAdd, Nat.reduceLeDiff, Nat.reduceSub, Nat.reduceMul, ↓reduceIte, reduceCtorEq, wrap_id, w_ite_ne, w_ite_lt, Nat.sub_zero, Nat.sub_self, h0]) (by omega) hl) ?_
  have hy2 := deckR_bd t at1 (min x 6 + 1)
  generalize deckR t at1 (min x 6 + 1) = dr at *
  obtain ⟨x2, at2⟩ := dr
  simp only at hy2
  try simp (maxSteps := 500000) (disch := omega) only [go_sem, Int.reduceEq, Int.reduceLT, Int.reduceLE, Int.reduceToNat, Nat.reduceLT, Nat.reduceEqDiff, Nat.reduceAdd, Nat.reduceLeDiff, Nat.reduceSub, Nat.reduceMul, ↓reduceIte, reduceCtorEq, wrap_id, w_ite_ne, w_ite_lt, Nat.sub_zero, Nat.sub_self, h0, h2]
  refine call_hc (ok_mk_Deck_Next _ id g ty_Deck true t at2 6 (by try simp (maxSteps := 500000) (disch := omega) only [go_sem, Int.reduceEq, Int.reduceLT, Int.reduceLE, Int.reduceToNat, Nat.reduceLT, Nat.reduceEqDiff, Nat.reduceAdd, Nat.reduceLeDiff, Nat.reduceSub, Nat.reduceMul, ↓reduceIte, reduceCtorEq, wrap_id, w_ite_ne, w_ite_lt, Nat.sub_zero, Nat.sub_self, h0]) (by omega) hl) ?_
  have hy3 := deckR_bd t at2 6
  generalize deckR t at2 6 = dr at *
  obtain ⟨x3, at3⟩ := dr
  simp only at hy3
  try simp (maxSteps := 500000) (disch := omega) only [go_sem, Int.reduceEq, Int.reduceLT, Int.reduceLE, Int.reduceToNat, Nat.reduceLT, Nat.reduceEqDiff, Nat.reduceAdd, Nat.reduceLeDiff, Nat.reduceSub, Nat.reduceMul, ↓reduceIte, reduceCtorEq, wrap_id, w_ite_ne, w_ite_lt, Nat.sub_zero, Nat.sub_self, h0, h2]
  exact fin _ _ ⟨x - x2, x + x3⟩ at3 (by try simp (maxSteps := 500000) (disch := omega) only [go_sem, Int.reduceEq, Int.reduceLT, Int.reduceLE, Int.reduceToNat, Nat.reduceLT, Nat.reduceEqDiff, Nat.reduceAdd, Nat.reduceLeDiff, Nat.reduceSub, Nat.reduceMul, ↓reduceIte, reduceCtorEq, wrap_id, w_ite_ne, w_ite_lt, Nat.sub_zero, Nat.sub_self, h0]) (by simp only [arB]; omega) (fun i hi hi2 => by
    have j0 : ¬ i = n0 := by omega
    try simp (maxSteps := 500000) (disch := omega) only [go_sem, Int.reduceEq, Int.reduceLT, Int.reduceLE, Int.reduceToNat, Nat.reduceLT, Nat.reduceEqDiff, Nat.reduceAdd, Nat.reduceLeDiff, Nat.reduceSub, Nat.reduceMul, ↓reduceIte, reduceCtorEq, wrap_id, w_ite_ne, w_ite_lt, Nat.sub_zero, Nat.sub_self, j0, hi2])
def DrwL (σ : St) (id g : Nat) (t : List Int) (L : List Int) (r : AV) (τ : St) : Prop :=
  ∃ B, ArL L B ∧ SlR 2 28 τ (bds B) r ∧ (∀ i, i < σ.n → Oth r i) ∧ σ.n ≤ τ.n ∧ (∃ a, τ.ob id = some ⟨g, 2, ty_Deck, false, true, [deckV t a]⟩) ∧ ∀ i, i < σ.n → i ≠ id → τ.ob i = σ.ob i
theorem hc_flow_list (σ : St) (id g : Nat) (t : List Int) (at' : Nat) (L : List Int) (hl : t.length ≤ 9223372036854775807) (hid : id < σ.n) (hob : σ.ob id = some ⟨g, 2, ty_Deck, false, true, [deckV t at']⟩) (hL : L.length ≤ 100) (hx : ∀ i, i < L.length → 0 ≤ L.getD i 0 ∧ L.getD i 0 ≤ 1000) :
    HC prog n_flow_list [.ptr id g 2 0 0, .list 1 (ints L)] σ (DrwL σ id g t L) := by
  obtain ⟨ob0, n0, c0⟩ := σ
  simp only at hob hid
  refine HC_of_body b_flow_list (by simp) ?_
  simp only [c_flow_list, go_sem, Int.reduceEq, Int.reduceLT, Int.reduceLE, Int.reduceToNat, Nat.reduceLT, Nat.reduceEqDiff, Nat.reduceAdd, Nat.reduceLeDiff, Nat.reduceSub, Nat.reduceMul, ↓reduceIte, reduceCtorEq, w_app_nl, ints_length]
  refine awp_upG [5, 7, 10, 11, 12, 13, 14, 15, 16, 17, 18, 19, 20] (by kernel_rfl) L.length (fun k e σ => e 10 = .int .i64 k ∧ (∃ a, σ.ob id = some ⟨g, 2, ty_Deck, false, true, [deckV t a]⟩) ∧ (∀ i, i < n0 → i ≠ id → σ.ob i = ob0 i) ∧ ∃ B, ArL (L.take k) B ∧ SlR 2 28 σ (bds B) (e 5) ∧ ∀ i, i < n0 → Oth (e 5) i) ?_ ?_
  · exact ⟨(by first | ((try simp (maxSteps := 1000000) only [go_sem, Int.reduceEq, Int.reduceLT, Int.reduceLE, Int.reduceToNat, Nat.reduceLT, Nat.reduceEqDiff, Nat.reduceAdd, Nat.reduceLeDiff, Nat.reduceSub, Nat.reduceMul, ↓reduceIte, reduceCtorEq, w_app_nl]); done) | ((try simp (maxSteps := 1000000) only [go_sem, Int.reduceEq, Int.reduceLT, Int.reduceLE, Int.reduceToNat, Nat.reduceLT, Nat.reduceEqDiff, Nat.reduceAdd, Nat.reduceLeDiff, Nat.reduceSub, Nat.reduceMul, ↓reduceIte, reduceCtorEq, w_app_nl]); rfl) | ((try simp (maxSteps := 1000000) (disch := omega) only [go_sem, Int.reduceEq, Int.reduceLT, Int.reduceLE, Int.reduceToNat, Nat.reduceLT, Nat.reduceEqDiff, Nat.reduceAdd, Nat.reduceLeDiff, Nat.reduceSub, Nat.reduceMul, ↓reduceIte, reduceCtorEq, w_app_nl, wrap_id, w_ite_ne, w_ite_lt]); rfl) | (simp (maxSteps := 1000000) (disch := omega) only [go_sem, Int.reduceEq, Int.reduceLT, Int.reduceLE, Int.reduceToNat, Nat.reduceLT, Nat.reduceEqDiff, Nat.reduceAdd, Nat.reduceLeDiff, Nat.reduceSub, Nat.reduceMul, ↓reduceIte, reduceCtorEq, w_app_nl, wrap_id, w_ite_ne, w_ite_lt]; done)), ⟨at', hob⟩, fun i hi hne => rfl, [], ArL.nil, by try simp (maxSteps := 500000) (disch := omega) only [go_sem, Int.reduceEq, Int.reduceLT, Int.reduceLE, Int.reduceToNat, Nat.reduceLT, Nat.reduceEqDiff, Nat.reduceAdd, Nat.reduceLeDiff, Nat.reduceSub, Nat.reduceMul, ↓reduceIte, reduceCtorEq, wrap_id, w_ite_ne, w_ite_lt, Nat.sub_zero, Nat.sub_self]; exact .nil, fun i _ => by try simp (maxSteps := 500000) (disch := omega) only [go_sem, Int.reduceEq, Int.reduceLT, Int.reduceLE, Int.reduceToNat, Nat.reduceLT, Nat.reduceEqDiff, Nat.reduceAdd, Nat.reduceLeDiff, Nat.reduceSub, Nat.reduceMul, ↓reduceIte, reduceCtorEq, wrap_id, w_ite_ne, w_ite_lt, Nat.sub_zero, Nat.sub_self]; exact Oth.nil i⟩
  rintro k fe ob m c hk hm ⟨h10, ⟨at3, hd⟩, hfr, B, hB, hR, ho⟩
  simp (maxSteps := 1000000) only [go_sem, Int.reduceEq, Int.reduceLT, Int.reduceLE, Int.reduceToNat, Nat.reduceLT, Nat.reduceEqDiff, Nat.reduceAdd, Nat.reduceLeDiff, Nat.reduceSub, Nat.reduceMul, ↓reduceIte, reduceCtorEq, w_app_nl] at h10 hd hfr hR ho hm
  obtain ⟨X5, h5⟩ : ∃ X, fe 5 = X := ⟨_, rfl⟩
  rw [h5] at hR ho
  try simp (maxSteps := 500000) (disch := omega) only [go_sem, Int.reduceEq, Int.reduceLT, Int.reduceLE, Int.reduceToNat, Nat.reduceLT, Nat.reduceEqDiff, Nat.reduceAdd, Nat.reduceLeDiff, Nat.reduceSub, Nat.reduceMul, ↓reduceIte, reduceCtorEq, wrap_id, w_ite_ne, w_ite_lt, Nat.sub_zero, Nat.sub_self, h10]
  refine cond_d (fun hlt => ?_) (fun hge => ?_)
  · have hkl : k < L.length := by omega
    have e1 := get_getD hkl
    have hxk := hx k hkl
    have hts := take_snoc hkl
    generalize L.getD k 0 = x at *
    try simp (maxSteps := 500000) (disch := omega) only [go_sem, Int.reduceEq, Int.reduceLT, Int.reduceLE, Int.reduceToNat, Nat.reduceLT, Nat.reduceEqDiff, Nat.reduceAdd, Nat.reduceLeDiff, Nat.reduceSub, Nat.reduceMul, ↓reduceIte, reduceCtorEq, wrap_id, w_ite_ne, w_ite_lt, Nat.sub_zero, Nat.sub_self, h10, ints_length, ints_get, e1, Option.map_some]
    refine ⟨by omega, by omega, ?_⟩
    refine (hc_flow_Bounds _ id g t at3 x hl (by simp only; omega) hd hxk.1 hxk.2).mono ?_
    intro r τ hD
    obtain ⟨⟨b, rfl, hb⟩, hn, ⟨at4, hd4⟩, hf4⟩ := hD.use (by simp only; omega)
    obtain ⟨ob4, m4, c4⟩ := τ
    simp only at hn hd4 hf4
    subst hn
    try simp (maxSteps := 500000) (disch := omega) only [go_sem, Int.reduceEq, Int.reduceLT, Int.reduceLE, Int.reduceToNat, Nat.reduceLT, Nat.reduceEqDiff, Nat.reduceAdd, Nat.reduceLeDiff, Nat.reduceSub, Nat.reduceMul, ↓reduceIte, reduceCtorEq, wrap_id, w_ite_ne, w_ite_lt, Nat.sub_zero, Nat.sub_self, h5]
    have hBl : B.length = k := by rw [hB.ln]; simp; omega
    refine ⟨⟨rfl, rfl, rfl⟩, ?_⟩
    refine app_slr (b := 16) (hR.move (by exact Nat.le_refl _) fun i hi hno => hf4 i hi fun e => hno (e ▸ ho id hid)) (by rw [bds_length]; omega) (by rw [bds_length]; omega) fun Y τ5 hR5 hK5 => ?_
    have hn5 := hK5.1
    simp only at hn5
    try simp (maxSteps := 500000) (disch := omega) only [go_sem, Int.reduceEq, Int.reduceLT, Int.reduceLE, Int.reduceToNat, Nat.reduceLT, Nat.reduceEqDiff, Nat.reduceAdd, Nat.reduceLeDiff, Nat.reduceSub, Nat.reduceMul, ↓reduceIte, reduceCtorEq, wrap_id, w_ite_ne, w_ite_lt, Nat.sub_zero, Nat.sub_self, h10]
    refine up_nextG τ5.n hkl (by omega) ⟨(by first | ((try simp (maxSteps := 1000000) only [go_sem, Int.reduceEq, Int.reduceLT, Int.reduceLE, Int.reduceToNat, Nat.reduceLT, Nat.reduceEqDiff, Nat.reduceAdd, Nat.reduceLeDiff, Nat.reduceSub, Nat.reduceMul, ↓reduceIte, reduceCtorEq, w_app_nl]); done) | ((try simp (maxSteps := 1000000) only [go_sem, Int.reduceEq, Int.reduceLT, Int.reduceLE, Int.reduceToNat, Nat.reduceLT, Nat.reduceEqDiff, Nat.reduceAdd, Nat.reduceLeDiff, Nat.reduceSub, Nat.reduceMul, ↓reduceIte, reduceCtorEq, w_app_nl]); rfl) | ((try simp (maxSteps := 1000000) (disch := omega) only [go_sem, Int.reduceEq, Int.reduceLT, Int.reduceLE, Int.reduceToNat, Nat.reduceLT, Nat.reduceEqDiff, Nat.reduceAdd, Nat.reduceLeDiff, Nat.reduceSub, Nat.reduceMul, ↓reduceIte, reduceCtorEq, w_app_nl, wrap_id, w_ite_ne, w_ite_lt]); rfl) | (simp (maxSteps := 1000000) (disch := omega) only [go_sem, Int.reduceEq, Int.reduceLT, Int.reduceLE, Int.reduceToNat, Nat.reduceLT, Nat.reduceEqDiff, Nat.reduceAdd, Nat.reduceLeDiff, Nat.reduceSub, Nat.reduceMul, ↓reduceIte, reduceCtorEq, w_app_nl, wrap_id, w_ite_ne, w_ite_lt]; done)), ⟨at4, ?_⟩, fun i hi hne => ?_, B ++ [b], ?_, ?_, fun i hi => ?_⟩
    · simp only [St.trunc]; rw [if_pos (by omega), hK5.2.1 id (by simp only; omega) (ho id hid)]; exact hd4
    · simp only [St.trunc]; rw [if_pos (by omega), hK5.2.1 i (by simp only; omega) (ho i hi)]
      exact (hf4 i (by omega) hne).trans (hfr i hi hne)
    · rw [hts]; exact hB.snoc hb
    · try simp (maxSteps := 500000) (disch := omega) only [go_sem, Int.reduceEq, Int.reduceLT, Int.reduceLE, Int.reduceToNat, Nat.reduceLT, Nat.reduceEqDiff, Nat.reduceAdd, Nat.reduceLeDiff, Nat.reduceSub, Nat.reduceMul, ↓reduceIte, reduceCtorEq, wrap_id, w_ite_ne, w_ite_lt, Nat.sub_zero, Nat.sub_self, bds_snoc]
      exact hR5.move (Nat.le_refl _) fun i hi _ => by simp [St.trunc, hi]
    · try simp (maxSteps := 500000) (disch := omega) only [go_sem, Int.reduceEq, Int.reduceLT, Int.reduceLE, Int.reduceToNat, Nat.reduceLT, Nat.reduceEqDiff, Nat.reduceAdd, Nat.reduceLeDiff, Nat.reduceSub, Nat.reduceMul, ↓reduceIte, reduceCtorEq, wrap_id, w_ite_ne, w_ite_lt, Nat.sub_zero, Nat.sub_self]; exact hK5.2.2 i (by simp only; omega) (ho i hi)
  · try simp (maxSteps := 500000) (disch := omega) only [go_sem, Int.reduceEq, Int.reduceLT, Int.reduceLE, Int.reduceToNat, Nat.reduceLT, Nat.reduceEqDiff, Nat.reduceAdd, Nat.reduceLeDiff, Nat.reduceSub, Nat.reduceMul, ↓reduceIte, reduceCtorEq, wrap_id, w_ite_ne, w_ite_lt, Nat.sub_zero, Nat.sub_self, h5]
    obtain rfl : L.length = k := by omega
    rw [List.take_length] at hB
    exact ⟨B, hB, hR, ho, hm, ⟨at3, hd⟩, hfr⟩
/-- What a drawn account is. -/
structure Drn (a : Ac) (n : Nat) (S I O : List Int) : Prop where
  h : Hst n S I O
  n1 : 1 ≤ n
  n5 : n ≤ 5
  f0 : 0 ≤ a.fr
  f1 : a.fr ≤ 19
  s : ArL S a.st
  i : ArL I a.ins
  o : ArL O a.outs
def AccR (σ : St) (id g : Nat) (t : List Int) (r : AV) (τ : St) : Prop :=
  ∃ a n S I O R1 R2 R3, r = .tuple [.agg [.int .i64 a.fr, R1, R2, R3], .list 1 (ints S), .list 1 (ints I), .list 1 (ints O)] ∧ Drn a n S I O ∧
    SlR 2 28 τ (bds a.st) R1 ∧ SlR 2 28 τ (bds a.ins) R2 ∧ SlR 2 28 τ (bds a.outs) R3 ∧ (∀ i, i < σ.n → Oth R1 i) ∧ (∀ i, i < σ.n → Oth R2 i) ∧ (∀ i, i < σ.n → Oth R3 i) ∧ Dj R1 R2 ∧ Dj R1 R3 ∧ Dj R2 R3 ∧
    σ.n ≤ τ.n ∧ (∃ a, τ.ob id = some ⟨g, 2, ty_Deck, false, true, [deckV t a]⟩) ∧ ∀ i, i < σ.n → i ≠ id → τ.ob i = σ.ob i
theorem hc_flow_Account (σ : St) (id g : Nat) (t : List Int) (at' : Nat) (hl : t.length ≤ 9223372036854775807) (hid : id < σ.n) (hob : σ.ob id = some ⟨g, 2, ty_Deck, false, true, [deckV t at']⟩) :
    HC prog n_flow_Account [.ptr id g 2 0 0] σ (AccR σ id g t) := by
  obtain ⟨ob0, n0, c0⟩ := σ
  simp only at hob hid
  refine HC_of_body b_flow_Account (by simp) ?_
  simp only [c_flow_Account, go_sem, Int.reduceEq, Int.reduceLT, Int.reduceLE, Int.reduceToNat, Nat.reduceLT, Nat.reduceEqDiff, Nat.reduceAdd, Nat.reduceLeDiff, Nat.reduceSub, Nat.reduceMul, ↓reduceIte, reduceCtorEq, w_app_nl]
  have h0 : ¬ id = n0 := by omega
  have h1 : ¬ id = n0 + 1 := by omega
  have h2 : ¬ n0 = id := by omega
  refine (hc_flow_History _ id g t at' hl (by simp only; omega) (by try simp (maxSteps := 500000) (disch := omega) only [go_sem, Int.reduceEq, Int.reduceLT, Int.reduceLE, Int.reduceToNat, Nat.reduceLT, Nat.reduceEqDiff, Nat.reduceAdd, Nat.reduceLeDiff, Nat.reduceSub, Nat.reduceMul, ↓reduceIte, reduceCtorEq, wrap_id, w_ite_ne, w_ite_lt, Nat.sub_zero, Nat.sub_self, h0]; exact hob)).mono ?_
  intro r τ hD
  obtain ⟨⟨n, S, I, O, rfl, hH, hn1, hn5⟩, hn, ⟨at1, hd1⟩, hf1⟩ := hD.use (by simp only; omega)
  obtain ⟨ob1, m1, c1⟩ := τ
  simp only at hn hd1 hf1
  obtain rfl : n0 + 1 = m1 := hn.symm
  have hS := hH.ls
  have hI := hH.li
  have hO := hH.lo
  try simp (maxSteps := 500000) (disch := omega) only [go_sem, Int.reduceEq, Int.reduceLT, Int.reduceLE, Int.reduceToNat, Nat.reduceLT, Nat.reduceEqDiff, Nat.reduceAdd, Nat.reduceLeDiff, Nat.reduceSub, Nat.reduceMul, ↓reduceIte, reduceCtorEq, wrap_id, w_ite_ne, w_ite_lt, Nat.sub_zero, Nat.sub_self, h0, h1]
  refine call_hc (ok_mk_Deck_Next _ id g ty_Deck true t at1 20 hd1 (by omega) hl) ?_
  have hx2 := deckR_bd t at1 20
  generalize deckR t at1 20 = dr at *
  obtain ⟨fr, at2⟩ := dr
  simp only at hx2
  try simp (maxSteps := 500000) (disch := omega) only [go_sem, Int.reduceEq, Int.reduceLT, Int.reduceLE, Int.reduceToNat, Nat.reduceLT, Nat.reduceEqDiff, Nat.reduceAdd, Nat.reduceLeDiff, Nat.reduceSub, Nat.reduceMul, ↓reduceIte, reduceCtorEq, wrap_id, w_ite_ne, w_ite_lt, Nat.sub_zero, Nat.sub_self, h0, h1]
  refine (hc_flow_list _ id g t at2 S hl (by simp only; omega) (by try simp (maxSteps := 500000) (disch := omega) only [go_sem, Int.reduceEq, Int.reduceLT, Int.reduceLE, Int.reduceToNat, Nat.reduceLT, Nat.reduceEqDiff, Nat.reduceAdd, Nat.reduceLeDiff, Nat.reduceSub, Nat.reduceMul, ↓reduceIte, reduceCtorEq, wrap_id, w_ite_ne, w_ite_lt, Nat.sub_zero, Nat.sub_self]) (by omega) (fun i hi => by have := hH.s i (by omega); omega)).mono ?_
  rintro R1 ⟨ob3, m3, c3⟩ ⟨B1, hB1, r1, o1, hm3, ⟨at3, hd3⟩, hf3⟩
  simp only at o1 hm3 hd3 hf3
  try simp (maxSteps := 500000) (disch := omega) only [go_sem, Int.reduceEq, Int.reduceLT, Int.reduceLE, Int.reduceToNat, Nat.reduceLT, Nat.reduceEqDiff, Nat.reduceAdd, Nat.reduceLeDiff, Nat.reduceSub, Nat.reduceMul, ↓reduceIte, reduceCtorEq, wrap_id, w_ite_ne, w_ite_lt, Nat.sub_zero, Nat.sub_self]
  refine (hc_flow_list _ id g t at3 I hl (by simp only; omega) hd3 (by omega) (fun i hi => by have := hH.i i (by omega); omega)).mono ?_
  rintro R2 ⟨ob4, m4, c4⟩ ⟨B2, hB2, r2, o2, hm4, ⟨at4, hd4⟩, hf4⟩
  simp only at o2 hm4 hd4 hf4
  try simp (maxSteps := 500000) (disch := omega) only [go_sem, Int.reduceEq, Int.reduceLT, Int.reduceLE, Int.reduceToNat, Nat.reduceLT, Nat.reduceEqDiff, Nat.reduceAdd, Nat.reduceLeDiff, Nat.reduceSub, Nat.reduceMul, ↓reduceIte, reduceCtorEq, wrap_id, w_ite_ne, w_ite_lt, Nat.sub_zero, Nat.sub_self]
  refine (hc_flow_list _ id g t at4 O hl (by simp only; omega) hd4 (by omega) (fun i hi => by have := hH.o i (by omega); omega)).mono ?_
  rintro R3 ⟨ob5, m5, c5⟩ ⟨B3, hB3, r3, o3, hm5, ⟨at5, hd5⟩, hf5⟩
  simp only at o3 hm5 hd5 hf5
  try simp (maxSteps := 500000) (disch := omega) only [go_sem, Int.reduceEq, Int.reduceLT, Int.reduceLE, Int.reduceToNat, Nat.reduceLT, Nat.reduceEqDiff, Nat.reduceAdd, Nat.reduceLeDiff, Nat.reduceSub, Nat.reduceMul, ↓reduceIte, reduceCtorEq, wrap_id, w_ite_ne, w_ite_lt, Nat.sub_zero, Nat.sub_self]
  have v1 := hf1 n0 (by omega) h2
  have v3 := hf3 n0 (by omega) h2
  have v4 := hf4 n0 (by omega) h2
  have v5 := hf5 n0 (by omega) h2
  try simp (maxSteps := 500000) (disch := omega) only [go_sem, Int.reduceEq, Int.reduceLT, Int.reduceLE, Int.reduceToNat, Nat.reduceLT, Nat.reduceEqDiff, Nat.reduceAdd, Nat.reduceLeDiff, Nat.reduceSub, Nat.reduceMul, ↓reduceIte, reduceCtorEq, wrap_id, w_ite_ne, w_ite_lt, Nat.sub_zero, Nat.sub_self, h2] at v1 v3
  rw [v4, v3, v1] at v5
  try simp (maxSteps := 500000) (disch := omega) only [go_sem, Int.reduceEq, Int.reduceLT, Int.reduceLE, Int.reduceToNat, Nat.reduceLT, Nat.reduceEqDiff, Nat.reduceAdd, Nat.reduceLeDiff, Nat.reduceSub, Nat.reduceMul, ↓reduceIte, reduceCtorEq, wrap_id, w_ite_ne, w_ite_lt, Nat.sub_zero, Nat.sub_self, r1.flat, r2.flat, r3.flat, r1.cells, r2.cells, r3.cells, r1.one, r2.one, r3.one, v5]
  have k1 : ∀ {R : AV} {i : Nat}, (∀ j, j < n0 + 1 → Oth R j) → ¬ Oth R i → ¬ i = id ∧ ¬ i = n0 := fun ho hno => ⟨fun e => hno (e ▸ ho id (by omega)), fun e => hno (e ▸ ho n0 (by omega))⟩
  have k2 : ∀ {R : AV} {i : Nat}, (∀ j, j < m3 → Oth R j) → ¬ Oth R i → ¬ i = id ∧ ¬ i = n0 := fun ho hno => ⟨fun e => hno (e ▸ ho id (by omega)), fun e => hno (e ▸ ho n0 (by omega))⟩
  have k3 : ∀ {R : AV} {i : Nat}, (∀ j, j < m4 → Oth R j) → ¬ Oth R i → ¬ i = id ∧ ¬ i = n0 := fun ho hno => ⟨fun e => hno (e ▸ ho id (by omega)), fun e => hno (e ▸ ho n0 (by omega))⟩
  refine ⟨⟨fr, B1, B2, B3⟩, n, S, I, O, R1, R2, R3, rfl, ⟨hH, hn1, hn5, by simp only; omega, by simp only; omega, hB1, hB2, hB3⟩, r1.move (by simp only; omega) fun i hi hno => ?_, r2.move (by simp only; omega) fun i hi hno => ?_, r3.move (by exact Nat.le_refl _) fun i hi hno => ?_, fun i hi => o1 i (by simp only at hi; omega), fun i hi => o2 i (by simp only at hi; omega), fun i hi => o3 i (by simp only at hi; omega), fun i => ?_, fun i => ?_, fun i => ?_, by simp only; omega, ⟨at5, ?_⟩, fun i hi hne => ?_⟩
  · obtain ⟨q1, q2⟩ := k1 o1 hno
    simp only at hi ⊢
    rw [upd_ne _ _ _ _ q2, hf5 i (by omega) q1, hf4 i (by omega) q1]
  · obtain ⟨q1, q2⟩ := k2 o2 hno
    simp only at hi ⊢
    rw [upd_ne _ _ _ _ q2, hf5 i (by omega) q1]
  · obtain ⟨q1, q2⟩ := k3 o3 hno
    simp only at hi ⊢
    rw [upd_ne _ _ _ _ q2]
  · rcases Nat.lt_or_ge i m3 with h | h
    · exact .inr (o2 i h)
    · exact .inl (r1.oth h)
  · rcases Nat.lt_or_ge i m4 with h | h
    · exact .inr (o3 i h)
    · exact .inl (r1.oth (by simp only; omega))
  · rcases Nat.lt_or_ge i m4 with h | h
    · exact .inr (o3 i h)
    · exact .inl (r2.oth (by simp only; omega))
  · simp only; rw [upd_ne _ _ _ _ h0]; exact hd5
  · simp only at hi ⊢
    rw [upd_ne _ _ _ _ (by omega), hf5 i (by omega) hne, hf4 i (by omega) hne, hf3 i (by omega) hne, upd_ne _ _ _ _ hne, hf1 i (by omega) hne, upd_ne _ _ _ _ (by omega)]
theorem deck_flow_Account (σ : St) (id g : Nat) (t : List Int) (at' : Nat) (hl : t.length ≤ 9223372036854775807) (hid : id < σ.n) (hob : σ.ob id = some ⟨g, 2, ty_Deck, false, true, [deckV t at']⟩) :
    HC prog n_flow_Account [.ptr id g 2 0 0] σ (DeckR σ id g t fun r => ∃ a n S I O, r = .tuple [acv a, .list 1 (ints S), .list 1 (ints I), .list 1 (ints O)] ∧ Drn a n S I O) := by
  refine HC.deck hid ((hc_flow_Account σ id g t at' hl hid hob).mono ?_)
  rintro r τ ⟨a, n, S, I, O, R1, R2, R3, rfl, hD, r1, r2, r3, o1, o2, o3, -, -, -, hn, ⟨at2, hd⟩, hf⟩
  have pb : ∀ {R : AV} {B : List Bd}, SlR 2 28 τ (bds B) R → (∀ i, i < σ.n → Oth R i) → Pub ⟨fun i => if i < σ.n then none else τ.ob i, τ.n, τ.c⟩ R (.list 2 (bds B)) := fun hr ho =>
    hr.pub (fun i hi hno => by simp only; rw [if_neg fun h => hno (ho i h)]) (bds_pur _) (bds_ok _)
  exact ⟨.tuple [acv a, .list 1 (ints S), .list 1 (ints I), .list 1 (ints O)], at2, Pub.tu (.cons (Pub.ag (.cons (.pure rfl) (.cons (pb r1 o1) (.cons (pb r2 o2) (.cons (pb r3 o3) .nil))))) (.cons (.pure (by simp [ints_pur, go_sem])) (.cons (.pure (by simp [go_sem])) (.cons (.pure (by simp [go_sem])) .nil)))), ⟨a, n, S, I, O, rfl, hD⟩, hd, hf⟩
/-- A loose account. -/
structure Lse (a : Ac) (n : Nat) : Prop where
  n1 : 1 ≤ n
  n5 : n ≤ 5
  ls : a.st.length = n + 1
  li : a.ins.length = n
  lo : a.outs.length = n
  f0 : 0 ≤ a.fr
  f1 : a.fr ≤ 19
  s : ∀ b ∈ a.st, 0 ≤ b.lo ∧ b.lo ≤ b.hi ∧ b.hi ≤ 1000
  i : ∀ b ∈ a.ins, 0 ≤ b.lo ∧ b.lo ≤ b.hi ∧ b.hi ≤ 1000
  o : ∀ b ∈ a.outs, 0 ≤ b.lo ∧ b.lo ≤ b.hi ∧ b.hi ≤ 1000
theorem bds_set' (L : List Bd) (i : Nat) (x y : Int) : (bds L).set i (.agg [.int .i64 x, .int .i64 y]) = bds (L.set i ⟨x, y⟩) := by simp [bds, bdv, List.map_set]
theorem ArL.fit {L : List Int} {B : List Bd} (h : ArL L B) (hx : ∀ i, i < L.length → L.getD i 0 ≤ 900) : ∀ b ∈ B, 0 ≤ b.lo ∧ b.lo ≤ b.hi ∧ b.hi ≤ 1000 := by
  intro b hb
  obtain ⟨i, hi, rfl⟩ := List.mem_iff_getElem.1 hb
  have h1 := h.b i (by have := h.ln; omega)
  have h2 := hx i (by have := h.ln; omega)
  have h3 : gB B i = B[i] := by simp [gB, List.getD_eq_getElem?_getD, hi]
  rw [h3] at h1
  simp only [arB] at h1
  omega
theorem Drn.lse {a : Ac} {n : Nat} {S I O : List Int} (h : Drn a n S I O) : Lse a n := by
  have h1 := h.h.ls
  have h2 := h.h.li
  have h3 := h.h.lo
  have := h.n5
  refine ⟨h.n1, h.n5, by rw [h.s.ln, h1], by rw [h.i.ln, h2], by rw [h.o.ln, h3], h.f0, h.f1, h.s.fit fun i hi => ?_, h.i.fit fun i hi => ?_, h.o.fit fun i hi => ?_⟩
  · have := h.h.s i (by omega); omega
  · have := h.h.i i (by omega); omega
  · have := h.h.o i (by omega); omega
theorem set_fit {B : List Bd} {i : Nat} {x : Bd} (h : ∀ b ∈ B, 0 ≤ b.lo ∧ b.lo ≤ b.hi ∧ b.hi ≤ 1000) (hx : 0 ≤ x.lo ∧ x.lo ≤ x.hi ∧ x.hi ≤ 1000) : ∀ b ∈ B.set i x, 0 ≤ b.lo ∧ b.lo ≤ b.hi ∧ b.hi ≤ 1000 := fun b hb => by
  rcases List.mem_or_eq_of_mem_set hb with h1 | rfl
  · exact h b h1
  · exact hx
theorem Lse.ok {a : Ac} {n : Nat} (h : Lse a n) : AcOK a := by
  have h1 := h.n1
  have h2 := h.n5
  have h3 := h.f0
  have h4 := h.f1
  have h5 := h.li
  have f : ∀ {b : Bd}, (0 ≤ b.lo ∧ b.lo ≤ b.hi ∧ b.hi ≤ 1000) → fitB b := fun h => ⟨h.1, h.2.1, by simp only [mxV]; omega⟩
  exact ⟨by omega, by omega, by rw [h.lo, h.li], by rw [h.ls, h.li], h3, by omega, fun b hb => f (h.s b hb), fun b hb => f (h.i b hb), fun b hb => f (h.o b hb)⟩
theorem dcall_next {ob : Nat → Option AObj} {id g : Nat} {t : List Int} {at' : Nat} {n : Int} {af : List Nat} {rs ws : List (Nat × Nat)} {p m c : Nat} {kk : List (Nat × Nat) → List (Nat × Nat) → AV → St → Prop}
    (hob : ob id = some ⟨g, 2, ty_Deck, false, true, [deckV t at']⟩) (hn : n ≤ 4611686018427387904) (hl : t.length ≤ 9223372036854775807) (hw : ∀ x ∈ ws, x.2 ≠ id) (hr : ∀ x ∈ rs, x.2 ≠ id)
    (k : kk (rs ++ [(p, id)]) (ws ++ [(p, id)]) (.int .i64 (deckR t at' n).1) ⟨upd ob id (some ⟨g, 2, ty_Deck, false, true, [deckV t (deckR t at' n).2]⟩), m, c⟩) :
    dcall (HC prog) n_mk_Deck_Next [.ptr id g 2 0 0, .int .i64 n] af rs ws p m c kk ob := by
  refine ⟨.int .i64 (deckR t at' n).1, [id], some (id, ⟨g, 2, ty_Deck, false, true, [deckV t (deckR t at' n).2]⟩), ⟨rfl, ⟨_, hob, rfl, rfl⟩, by simp [deckV, go_sem, ints_pur], by simp, fun ob' n' c' h => ?_⟩, ?_, ?_, ?_⟩
  · exact ok_mk_Deck_Next ⟨ob', n', c'⟩ id g ty_Deck true t at' n ((h id (by simp)).trans hob) hn hl
  · intro x hx; exact .inr fun i hi => by simp [wrO] at hi; subst hi; exact hw x hx
  · intro x hx; exact .inr fun i hi => by simp [wrO] at hi; subst hi; exact hr x hx
  · exact k
theorem hc_flow_Loose (σ : St) (id g : Nat) (t : List Int) (at' : Nat) (hl : t.length ≤ 9223372036854775807) (hid : id < σ.n) (hob : σ.ob id = some ⟨g, 2, ty_Deck, false, true, [deckV t at']⟩) :
    HC prog n_flow_Loose [.ptr id g 2 0 0] σ (DeckR σ id g t fun r => ∃ a n, r = acv a ∧ Lse a n) := by
  refine HC.deck hid ?_
  obtain ⟨ob0, n0, c0⟩ := σ
  simp only at hob hid
  refine HC_of_body b_flow_Loose (by simp) ?_
  simp only [c_flow_Loose, go_sem, Int.reduceEq, Int.reduceLT, Int.reduceLE, Int.reduceToNat, Nat.reduceLT, Nat.reduceEqDiff, Nat.reduceAdd, Nat.reduceLeDiff, Nat.reduceSub, Nat.reduceMul, ↓reduceIte, reduceCtorEq, w_app_nl]
  have h0 : ¬ id = n0 := by omega
  have h1 : ¬ id = n0 + 1 := by omega
  have h2 : ¬ n0 = id := by omega
  refine (hc_flow_Account _ id g t at' hl (by simp only; omega) (by try simp (maxSteps := 500000) (disch := omega) only [go_sem, Int.reduceEq, Int.reduceLT, Int.reduceLE, Int.reduceToNat, Nat.reduceLT, Nat.reduceEqDiff, Nat.reduceAdd, Nat.reduceLeDiff, Nat.reduceSub, Nat.reduceMul, ↓reduceIte, reduceCtorEq, wrap_id, w_ite_ne, w_ite_lt, Nat.sub_zero, Nat.sub_self, h0]; exact hob)).mono ?_
  rintro r ⟨ob1, m1, c1⟩ ⟨a, n, S, I, O, R1, R2, R3, rfl, hD, r1, r2, r3, o1, o2, o3, d12, d13, d23, hm1, ⟨at1, hd1⟩, hf1⟩
  simp only at o1 o2 o3 hm1 hd1 hf1
  have v1 := hf1 n0 (by omega) h2
  try simp (maxSteps := 500000) (disch := omega) only [go_sem, Int.reduceEq, Int.reduceLT, Int.reduceLE, Int.reduceToNat, Nat.reduceLT, Nat.reduceEqDiff, Nat.reduceAdd, Nat.reduceLeDiff, Nat.reduceSub, Nat.reduceMul, ↓reduceIte, reduceCtorEq, wrap_id, w_ite_ne, w_ite_lt, Nat.sub_zero, Nat.sub_self] at v1
  have hL := hD.lse
  have hls := hL.ls
  have hli := hL.li
  have hlo := hL.lo
  have hn1 := hL.n1
  have hn5 := hL.n5
  rcases r1 with ⟨-, hnil⟩ | ⟨i1, g1, rfl, hi1, w1⟩
  · have := bds_length a.st; rw [hnil] at this; simp at this; omega
  rcases r2 with ⟨-, hnil⟩ | ⟨i2, g2, rfl, hi2, w2⟩
  · have := bds_length a.ins; rw [hnil] at this; simp at this; omega
  rcases r3 with ⟨-, hnil⟩ | ⟨i3, g3, rfl, hi3, w3⟩
  · have := bds_length a.outs; rw [hnil] at this; simp at this; omega
  simp only at hi1 hi2 hi3 w1 w2 w3
  have a1 := (o1 id (by omega)).ne
  have a2 := (o2 id (by omega)).ne
  have a3 := (o3 id (by omega)).ne
  have b1 := (o1 n0 (by omega)).ne
  have b2 := (o2 n0 (by omega)).ne
  have b3 := (o3 n0 (by omega)).ne
  have c12 : ¬ i1 = i2 := (d12 i2).elim (fun h => h.ne) (fun h => absurd rfl h.ne)
  have c13 : ¬ i1 = i3 := (d13 i3).elim (fun h => h.ne) (fun h => absurd rfl h.ne)
  have c23 : ¬ i2 = i3 := (d23 i3).elim (fun h => h.ne) (fun h => absurd rfl h.ne)
  have hlow1 : n0 < i1 := by
    rcases Nat.lt_or_ge n0 i1 with h | h
    · exact h
    · exact absurd rfl (o1 i1 (by omega)).ne
  have hlow2 : n0 < i2 := by
    rcases Nat.lt_or_ge n0 i2 with h | h
    · exact h
    · exact absurd rfl (o2 i2 (by omega)).ne
  have hlow3 : n0 < i3 := by
    rcases Nat.lt_or_ge n0 i3 with h | h
    · exact h
    · exact absurd rfl (o3 i3 (by omega)).ne
  clear d12 d13 d23 o1 o2 o3
  try simp (maxSteps := 500000) (disch := omega) only [go_sem, Int.reduceEq, Int.reduceLT, Int.reduceLE, Int.reduceToNat, Nat.reduceLT, Nat.reduceEqDiff, Nat.reduceAdd, Nat.reduceLeDiff, Nat.reduceSub, Nat.reduceMul, ↓reduceIte, reduceCtorEq, wrap_id, w_ite_ne, w_ite_lt, Nat.sub_zero, Nat.sub_self, bds_length, hls, hli, hlo]
  have h3 : ¬ id = m1 := by omega
  have h4 : ¬ m1 = id := by omega
  refine call_hc (ok_mk_Deck_Next _ id g ty_Deck true t at1 3 (by try simp (maxSteps := 500000) (disch := omega) only [go_sem, Int.reduceEq, Int.reduceLT, Int.reduceLE, Int.reduceToNat, Nat.reduceLT, Nat.reduceEqDiff, Nat.reduceAdd, Nat.reduceLeDiff, Nat.reduceSub, Nat.reduceMul, ↓reduceIte, reduceCtorEq, wrap_id, w_ite_ne, w_ite_lt, Nat.sub_zero, Nat.sub_self, h3]; exact hd1) (by omega) hl) ?_
  have hx2 := deckR_bd t at1 3
  generalize deckR t at1 3 = dr at *
  obtain ⟨x2, at2⟩ := dr
  simp only at hx2
  try simp (maxSteps := 500000) (disch := omega) only [go_sem, Int.reduceEq, Int.reduceLT, Int.reduceLE, Int.reduceToNat, Nat.reduceLT, Nat.reduceEqDiff, Nat.reduceAdd, Nat.reduceLeDiff, Nat.reduceSub, Nat.reduceMul, ↓reduceIte, reduceCtorEq, wrap_id, w_ite_ne, w_ite_lt, Nat.sub_zero, Nat.sub_self, h0, h1]
  obtain ⟨K, hK⟩ : ∃ K : Nat, (K : Int) = x2 ∧ K ≤ 2 := ⟨x2.toNat, by omega, by omega⟩
  obtain ⟨rfl, hK⟩ := hK
  have j1 : ¬ i1 = m1 := by omega
  have j2 : ¬ i2 = m1 := by omega
  have j3 : ¬ i3 = m1 := by omega
  have jn : ¬ n0 = m1 := by omega
  have jm : ¬ m1 = n0 := by omega
  refine awp_upG [7, 8, 9, 19, 20, 21, 22, 23, 24, 25, 26, 27, 28, 29, 30, 31, 32, 33, 34, 35, 36, 37, 38, 39, 40, 41, 42, 43, 44, 45, 46, 47] (by kernel_rfl) K (fun k e σ => e 7 = .int .i64 ((K : Int) - k) ∧ ∃ b, Lse b n ∧ b.fr = a.fr ∧ σ.ob i1 = some ⟨g1, 2, 28, false, true, bds b.st⟩ ∧ σ.ob i2 = some ⟨g2, 2, 28, false, true, bds b.ins⟩ ∧ σ.ob i3 = some ⟨g3, 2, 28, false, true, bds b.outs⟩ ∧
      σ.ob m1 = some ⟨c1, 4, 33, false, true, [.agg [.int .i64 a.fr, .sl i1 g1 2 0 (n + 1), .sl i2 g2 2 0 n, .sl i3 g3 2 0 n]]⟩ ∧ σ.ob n0 = some ⟨c0, 4, 33, false, true, [.agg [.int .i64 0, .nil, .nil, .nil]]⟩ ∧
      (∃ a, σ.ob id = some ⟨g, 2, ty_Deck, false, true, [deckV t a]⟩) ∧ ∀ i, i < n0 → i ≠ id → σ.ob i = ob0 i) ?_ ?_
  · refine ⟨(by first | ((try simp (maxSteps := 1000000) only [go_sem, Int.reduceEq, Int.reduceLT, Int.reduceLE, Int.reduceToNat, Nat.reduceLT, Nat.reduceEqDiff, Nat.reduceAdd, Nat.reduceLeDiff, Nat.reduceSub, Nat.reduceMul, ↓reduceIte, reduceCtorEq, w_app_nl]); done) | ((try simp (maxSteps := 1000000) only [go_sem, Int.reduceEq, Int.reduceLT, Int.reduceLE, Int.reduceToNat, Nat.reduceLT, Nat.reduceEqDiff, Nat.reduceAdd, Nat.reduceLeDiff, Nat.reduceSub, Nat.reduceMul, ↓reduceIte, reduceCtorEq, w_app_nl]); rfl) | ((try simp (maxSteps := 1000000) (disch := omega) only [go_sem, Int.reduceEq, Int.reduceLT, Int.reduceLE, Int.reduceToNat, Nat.reduceLT, Nat.reduceEqDiff, Nat.reduceAdd, Nat.reduceLeDiff, Nat.reduceSub, Nat.reduceMul, ↓reduceIte, reduceCtorEq, w_app_nl, wrap_id, w_ite_ne, w_ite_lt]); rfl) | (simp (maxSteps := 1000000) (disch := omega) only [go_sem, Int.reduceEq, Int.reduceLT, Int.reduceLE, Int.reduceToNat, Nat.reduceLT, Nat.reduceEqDiff, Nat.reduceAdd, Nat.reduceLeDiff, Nat.reduceSub, Nat.reduceMul, ↓reduceIte, reduceCtorEq, w_app_nl, wrap_id, w_ite_ne, w_ite_lt]; done)), a, hL, rfl, ?_, ?_, ?_, ?_, ?_, ⟨at2, ?_⟩, fun i hi hne => ?_⟩
    · try simp (maxSteps := 500000) (disch := omega) only [go_sem, Int.reduceEq, Int.reduceLT, Int.reduceLE, Int.reduceToNat, Nat.reduceLT, Nat.reduceEqDiff, Nat.reduceAdd, Nat.reduceLeDiff, Nat.reduceSub, Nat.reduceMul, ↓reduceIte, reduceCtorEq, wrap_id, w_ite_ne, w_ite_lt, Nat.sub_zero, Nat.sub_self, a1, j1]; exact w1
    · try simp (maxSteps := 500000) (disch := omega) only [go_sem, Int.reduceEq, Int.reduceLT, Int.reduceLE, Int.reduceToNat, Nat.reduceLT, Nat.reduceEqDiff, Nat.reduceAdd, Nat.reduceLeDiff, Nat.reduceSub, Nat.reduceMul, ↓reduceIte, reduceCtorEq, wrap_id, w_ite_ne, w_ite_lt, Nat.sub_zero, Nat.sub_self, a2, j2]; exact w2
    · try simp (maxSteps := 500000) (disch := omega) only [go_sem, Int.reduceEq, Int.reduceLT, Int.reduceLE, Int.reduceToNat, Nat.reduceLT, Nat.reduceEqDiff, Nat.reduceAdd, Nat.reduceLeDiff, Nat.reduceSub, Nat.reduceMul, ↓reduceIte, reduceCtorEq, wrap_id, w_ite_ne, w_ite_lt, Nat.sub_zero, Nat.sub_self, a3, j3]; exact w3
    · try simp (maxSteps := 500000) (disch := omega) only [go_sem, Int.reduceEq, Int.reduceLT, Int.reduceLE, Int.reduceToNat, Nat.reduceLT, Nat.reduceEqDiff, Nat.reduceAdd, Nat.reduceLeDiff, Nat.reduceSub, Nat.reduceMul, ↓reduceIte, reduceCtorEq, wrap_id, w_ite_ne, w_ite_lt, Nat.sub_zero, Nat.sub_self, h4]
    · try simp (maxSteps := 500000) (disch := omega) only [go_sem, Int.reduceEq, Int.reduceLT, Int.reduceLE, Int.reduceToNat, Nat.reduceLT, Nat.reduceEqDiff, Nat.reduceAdd, Nat.reduceLeDiff, Nat.reduceSub, Nat.reduceMul, ↓reduceIte, reduceCtorEq, wrap_id, w_ite_ne, w_ite_lt, Nat.sub_zero, Nat.sub_self, h2, jn]; exact v1
    · try simp (maxSteps := 500000) (disch := omega) only [go_sem, Int.reduceEq, Int.reduceLT, Int.reduceLE, Int.reduceToNat, Nat.reduceLT, Nat.reduceEqDiff, Nat.reduceAdd, Nat.reduceLeDiff, Nat.reduceSub, Nat.reduceMul, ↓reduceIte, reduceCtorEq, wrap_id, w_ite_ne, w_ite_lt, Nat.sub_zero, Nat.sub_self]
    · have : ¬ i = m1 := by omega
      have h9 : ¬ i = n0 := by omega
      try simp (maxSteps := 500000) (disch := omega) only [go_sem, Int.reduceEq, Int.reduceLT, Int.reduceLE, Int.reduceToNat, Nat.reduceLT, Nat.reduceEqDiff, Nat.reduceAdd, Nat.reduceLeDiff, Nat.reduceSub, Nat.reduceMul, ↓reduceIte, reduceCtorEq, wrap_id, w_ite_ne, w_ite_lt, Nat.sub_zero, Nat.sub_self, hne, this]
      have := hf1 i (by omega) hne
      rw [upd_ne _ _ _ _ h9] at this
      exact this
  clear hD hL v1 w1 w2 w3 hf1 hd1 hls hli hlo
  rintro k fe ob m c hk hm ⟨h7, b, hL, hfr, u1, u2, u3, u4, u5, ⟨at3, hd⟩, hF⟩
  simp (maxSteps := 1000000) only [go_sem, Int.reduceEq, Int.reduceLT, Int.reduceLE, Int.reduceToNat, Nat.reduceLT, Nat.reduceEqDiff, Nat.reduceAdd, Nat.reduceLeDiff, Nat.reduceSub, Nat.reduceMul, ↓reduceIte, reduceCtorEq, w_app_nl] at h7 u1 u2 u3 u4 u5 hd hF hm
  have hls := hL.ls
  have hli := hL.li
  have hlo := hL.lo
  try simp (maxSteps := 500000) (disch := omega) only [go_sem, Int.reduceEq, Int.reduceLT, Int.reduceLE, Int.reduceToNat, Nat.reduceLT, Nat.reduceEqDiff, Nat.reduceAdd, Nat.reduceLeDiff, Nat.reduceSub, Nat.reduceMul, ↓reduceIte, reduceCtorEq, wrap_id, w_ite_ne, w_ite_lt, Nat.sub_zero, Nat.sub_self, h7]
  refine cond_d (fun hgt => ?_) (fun hle => ?_)
  · have hkl : k < K := by omega
    have z1 : ¬ i1 = m := by omega
    have z2 : ¬ i2 = m := by omega
    have z3 : ¬ i3 = m := by omega
    have z4 : ¬ m1 = m := by omega
    have z5 : ¬ n0 = m := by omega
    have z6 : ¬ id = m := by omega
    have z7 : ¬ m = id := by omega
    try simp (maxSteps := 500000) (disch := omega) only [go_sem, Int.reduceEq, Int.reduceLT, Int.reduceLE, Int.reduceToNat, Nat.reduceLT, Nat.reduceEqDiff, Nat.reduceAdd, Nat.reduceLeDiff, Nat.reduceSub, Nat.reduceMul, ↓reduceIte, reduceCtorEq, wrap_id, w_ite_ne, w_ite_lt, Nat.sub_zero, Nat.sub_self, u4]
    refine dcall_next (by try simp (maxSteps := 500000) (disch := omega) only [go_sem, Int.reduceEq, Int.reduceLT, Int.reduceLE, Int.reduceToNat, Nat.reduceLT, Nat.reduceEqDiff, Nat.reduceAdd, Nat.reduceLeDiff, Nat.reduceSub, Nat.reduceMul, ↓reduceIte, reduceCtorEq, wrap_id, w_ite_ne, w_ite_lt, Nat.sub_zero, Nat.sub_self, z6]; exact hd) (by omega) hl (by simp; omega) (by simp; omega) ?_
    have hx4 := deckR_bd t at3 3
    generalize deckR t at3 3 = dr at *
    obtain ⟨x, at4⟩ := dr
    simp only at hx4
    have hx5 : x = 0 ∨ x = 1 ∨ x = 2 := by omega
    have y1 : ¬ id = m + 6 := by omega
    have y2 : ¬ m + 6 = id := by omega
    have s1 : ¬ i1 = m + 6 := by omega
    have s2 : ¬ i2 = m + 6 := by omega
    have s3 : ¬ i3 = m + 6 := by omega
    have s4 : ¬ m1 = m + 6 := by omega
    have s5 : ¬ n0 = m + 6 := by omega
    rcases hx5 with rfl | rfl | rfl
    · try simp (maxSteps := 500000) (disch := omega) only [go_sem, Int.reduceEq, Int.reduceLT, Int.reduceLE, Int.reduceToNat, Nat.reduceLT, Nat.reduceEqDiff, Nat.reduceAdd, Nat.reduceLeDiff, Nat.reduceSub, Nat.reduceMul, ↓reduceIte, reduceCtorEq, wrap_id, w_ite_ne, w_ite_lt, Nat.sub_zero, Nat.sub_self, y1, y2]
      refine call_hc (ok_mk_Deck_Next _ id g ty_Deck true t at4 50 (by try simp (maxSteps := 500000) (disch := omega) only [go_sem, Int.reduceEq, Int.reduceLT, Int.reduceLE, Int.reduceToNat, Nat.reduceLT, Nat.reduceEqDiff, Nat.reduceAdd, Nat.reduceLeDiff, Nat.reduceSub, Nat.reduceMul, ↓reduceIte, reduceCtorEq, wrap_id, w_ite_ne, w_ite_lt, Nat.sub_zero, Nat.sub_self]) (by omega) hl) ?_
      have hx6 := deckR_bd t at4 50
      generalize deckR t at4 50 = dr at *
      obtain ⟨x6, at6⟩ := dr
      simp only at hx6
      try simp (maxSteps := 500000) (disch := omega) only [go_sem, Int.reduceEq, Int.reduceLT, Int.reduceLE, Int.reduceToNat, Nat.reduceLT, Nat.reduceEqDiff, Nat.reduceAdd, Nat.reduceLeDiff, Nat.reduceSub, Nat.reduceMul, ↓reduceIte, reduceCtorEq, wrap_id, w_ite_ne, w_ite_lt, Nat.sub_zero, Nat.sub_self]
      refine call_hc (ok_mk_Deck_Next _ id g ty_Deck true t at6 _ (by try simp (maxSteps := 500000) (disch := omega) only [go_sem, Int.reduceEq, Int.reduceLT, Int.reduceLE, Int.reduceToNat, Nat.reduceLT, Nat.reduceEqDiff, Nat.reduceAdd, Nat.reduceLeDiff, Nat.reduceSub, Nat.reduceMul, ↓reduceIte, reduceCtorEq, wrap_id, w_ite_ne, w_ite_lt, Nat.sub_zero, Nat.sub_self]) (by omega) hl) ?_
      have hx7 := deckR_bd t at6 ((n + 1 : Nat) : Int)
      generalize deckR t at6 ((n + 1 : Nat) : Int) = dr at *
      obtain ⟨x7, at7⟩ := dr
      simp only at hx7
      try simp (maxSteps := 500000) (disch := omega) only [go_sem, Int.reduceEq, Int.reduceLT, Int.reduceLE, Int.reduceToNat, Nat.reduceLT, Nat.reduceEqDiff, Nat.reduceAdd, Nat.reduceLeDiff, Nat.reduceSub, Nat.reduceMul, ↓reduceIte, reduceCtorEq, wrap_id, w_ite_ne, w_ite_lt, Nat.sub_zero, Nat.sub_self]
      refine call_hc (ok_mk_Deck_Next _ id g ty_Deck true t at7 20 (by try simp (maxSteps := 500000) (disch := omega) only [go_sem, Int.reduceEq, Int.reduceLT, Int.reduceLE, Int.reduceToNat, Nat.reduceLT, Nat.reduceEqDiff, Nat.reduceAdd, Nat.reduceLeDiff, Nat.reduceSub, Nat.reduceMul, ↓reduceIte, reduceCtorEq, wrap_id, w_ite_ne, w_ite_lt, Nat.sub_zero, Nat.sub_self]) (by omega) hl) ?_
      have hx8 := deckR_bd t at7 20
      generalize deckR t at7 20 = dr at *
      obtain ⟨x8, at8⟩ := dr
      simp only at hx8
      obtain ⟨Y, hY⟩ : ∃ Y : Nat, (Y : Int) = x7 ∧ Y < n + 1 := ⟨x7.toNat, by omega, by omega⟩
      obtain ⟨rfl, hY⟩ := hY
      have hbl := bds_length b.st
      try simp (maxSteps := 500000) (disch := omega) only [go_sem, Int.reduceEq, Int.reduceLT, Int.reduceLE, Int.reduceToNat, Nat.reduceLT, Nat.reduceEqDiff, Nat.reduceAdd, Nat.reduceLeDiff, Nat.reduceSub, Nat.reduceMul, ↓reduceIte, reduceCtorEq, wrap_id, w_ite_ne, w_ite_lt, Nat.sub_zero, Nat.sub_self, h7, a1, s1, u1, hbl, hls]
      have eY := gB_get (L := b.st) (i := Y) (by omega)
      refine ⟨by omega, by omega, bdv (gB b.st Y), by rw [bds_get, eY]; rfl, ?_⟩
      try simp (maxSteps := 500000) (disch := omega) only [go_sem, Int.reduceEq, Int.reduceLT, Int.reduceLE, Int.reduceToNat, Nat.reduceLT, Nat.reduceEqDiff, Nat.reduceAdd, Nat.reduceLeDiff, Nat.reduceSub, Nat.reduceMul, ↓reduceIte, reduceCtorEq, wrap_id, w_ite_ne, w_ite_lt, Nat.sub_zero, Nat.sub_self, bdv, bds_set']
      refine up_nextG (m + 12) hkl (by omega) ⟨by try simp (maxSteps := 500000) (disch := omega) only [go_sem, Int.reduceEq, Int.reduceLT, Int.reduceLE, Int.reduceToNat, Nat.reduceLT, Nat.reduceEqDiff, Nat.reduceAdd, Nat.reduceLeDiff, Nat.reduceSub, Nat.reduceMul, ↓reduceIte, reduceCtorEq, wrap_id, w_ite_ne, w_ite_lt, Nat.sub_zero, Nat.sub_self]; congr 1; omega, { b with st := b.st.set Y ⟨x6, x6 + x8⟩ }, ⟨hL.n1, hL.n5, by simp [hls], hli, hlo, hL.f0, hL.f1, set_fit hL.s (by simp only; omega), hL.i, hL.o⟩, hfr, ?_, ?_, ?_, ?_, ?_, ⟨at8, ?_⟩, fun i hi hne => ?_⟩
      · simp only [St.trunc]; rw [if_pos (by omega)]; simp [upd, bds_set']
      · simp only [St.trunc]; rw [if_pos (by omega), upd_ne _ _ _ _ (fun e => c12 e.symm), upd_ne _ _ _ _ a2, upd_ne _ _ _ _ a2, upd_ne _ _ _ _ a2, upd_ne _ _ _ _ a2, upd_ne _ _ _ _ s2]; exact u2
      · simp only [St.trunc]; rw [if_pos (by omega), upd_ne _ _ _ _ (fun e => c13 e.symm), upd_ne _ _ _ _ a3, upd_ne _ _ _ _ a3, upd_ne _ _ _ _ a3, upd_ne _ _ _ _ a3, upd_ne _ _ _ _ s3]; exact u3
      · simp only [St.trunc]; rw [if_pos (by omega), upd_ne _ _ _ _ (fun e => j1 e.symm), upd_ne _ _ _ _ h4, upd_ne _ _ _ _ h4, upd_ne _ _ _ _ h4, upd_ne _ _ _ _ h4, upd_ne _ _ _ _ s4]; exact u4
      · simp only [St.trunc]; rw [if_pos (by omega), upd_ne _ _ _ _ (fun e => b1 e.symm), upd_ne _ _ _ _ h2, upd_ne _ _ _ _ h2, upd_ne _ _ _ _ h2, upd_ne _ _ _ _ h2, upd_ne _ _ _ _ s5]; exact u5
      · simp only [St.trunc]; rw [if_pos (by omega), upd_ne _ _ _ _ (fun e => a1 e.symm), upd_same]
      · have q1 : ¬ i = m + 6 := by omega
        have q2 : ¬ i = i1 := by have := hlow1; omega
        simp only [St.trunc]; rw [if_pos (by omega), upd_ne _ _ _ _ q2, upd_ne _ _ _ _ hne, upd_ne _ _ _ _ hne, upd_ne _ _ _ _ hne, upd_ne _ _ _ _ hne, upd_ne _ _ _ _ q1]; exact hF i hi hne
    · try simp (maxSteps := 500000) (disch := omega) only [go_sem, Int.reduceEq, Int.reduceLT, Int.reduceLE, Int.reduceToNat, Nat.reduceLT, Nat.reduceEqDiff, Nat.reduceAdd, Nat.reduceLeDiff, Nat.reduceSub, Nat.reduceMul, ↓reduceIte, reduceCtorEq, wrap_id, w_ite_ne, w_ite_lt, Nat.sub_zero, Nat.sub_self, y1, y2]
      refine call_hc (ok_mk_Deck_Next _ id g ty_Deck true t at4 50 (by try simp (maxSteps := 500000) (disch := omega) only [go_sem, Int.reduceEq, Int.reduceLT, Int.reduceLE, Int.reduceToNat, Nat.reduceLT, Nat.reduceEqDiff, Nat.reduceAdd, Nat.reduceLeDiff, Nat.reduceSub, Nat.reduceMul, ↓reduceIte, reduceCtorEq, wrap_id, w_ite_ne, w_ite_lt, Nat.sub_zero, Nat.sub_self]) (by omega) hl) ?_
      have hx6 := deckR_bd t at4 50
      generalize deckR t at4 50 = dr at *
      obtain ⟨x6, at6⟩ := dr
      simp only at hx6
      try simp (maxSteps := 500000) (disch := omega) only [go_sem, Int.reduceEq, Int.reduceLT, Int.reduceLE, Int.reduceToNat, Nat.reduceLT, Nat.reduceEqDiff, Nat.reduceAdd, Nat.reduceLeDiff, Nat.reduceSub, Nat.reduceMul, ↓reduceIte, reduceCtorEq, wrap_id, w_ite_ne, w_ite_lt, Nat.sub_zero, Nat.sub_self]
      refine call_hc (ok_mk_Deck_Next _ id g ty_Deck true t at6 _ (by try simp (maxSteps := 500000) (disch := omega) only [go_sem, Int.reduceEq, Int.reduceLT, Int.reduceLE, Int.reduceToNat, Nat.reduceLT, Nat.reduceEqDiff, Nat.reduceAdd, Nat.reduceLeDiff, Nat.reduceSub, Nat.reduceMul, ↓reduceIte, reduceCtorEq, wrap_id, w_ite_ne, w_ite_lt, Nat.sub_zero, Nat.sub_self]) (by omega) hl) ?_
      have hx7 := deckR_bd t at6 ((n : Nat) : Int)
      generalize deckR t at6 ((n : Nat) : Int) = dr at *
      obtain ⟨x7, at7⟩ := dr
      simp only at hx7
      try simp (maxSteps := 500000) (disch := omega) only [go_sem, Int.reduceEq, Int.reduceLT, Int.reduceLE, Int.reduceToNat, Nat.reduceLT, Nat.reduceEqDiff, Nat.reduceAdd, Nat.reduceLeDiff, Nat.reduceSub, Nat.reduceMul, ↓reduceIte, reduceCtorEq, wrap_id, w_ite_ne, w_ite_lt, Nat.sub_zero, Nat.sub_self]
      refine call_hc (ok_mk_Deck_Next _ id g ty_Deck true t at7 20 (by try simp (maxSteps := 500000) (disch := omega) only [go_sem, Int.reduceEq, Int.reduceLT, Int.reduceLE, Int.reduceToNat, Nat.reduceLT, Nat.reduceEqDiff, Nat.reduceAdd, Nat.reduceLeDiff, Nat.reduceSub, Nat.reduceMul, ↓reduceIte, reduceCtorEq, wrap_id, w_ite_ne, w_ite_lt, Nat.sub_zero, Nat.sub_self]) (by omega) hl) ?_
      have hx8 := deckR_bd t at7 20
      generalize deckR t at7 20 = dr at *
      obtain ⟨x8, at8⟩ := dr
      simp only at hx8
      obtain ⟨Y, hY⟩ : ∃ Y : Nat, (Y : Int) = x7 ∧ Y < n := ⟨x7.toNat, by omega, by omega⟩
      obtain ⟨rfl, hY⟩ := hY
      have hbl := bds_length b.ins
      try simp (maxSteps := 500000) (disch := omega) only [go_sem, Int.reduceEq, Int.reduceLT, Int.reduceLE, Int.reduceToNat, Nat.reduceLT, Nat.reduceEqDiff, Nat.reduceAdd, Nat.reduceLeDiff, Nat.reduceSub, Nat.reduceMul, ↓reduceIte, reduceCtorEq, wrap_id, w_ite_ne, w_ite_lt, Nat.sub_zero, Nat.sub_self, h7, a2, s2, u2, hbl, hli]
      have eY := gB_get (L := b.ins) (i := Y) (by omega)
      refine ⟨by omega, by omega, bdv (gB b.ins Y), by rw [bds_get, eY]; rfl, ?_⟩
      try simp (maxSteps := 500000) (disch := omega) only [go_sem, Int.reduceEq, Int.reduceLT, Int.reduceLE, Int.reduceToNat, Nat.reduceLT, Nat.reduceEqDiff, Nat.reduceAdd, Nat.reduceLeDiff, Nat.reduceSub, Nat.reduceMul, ↓reduceIte, reduceCtorEq, wrap_id, w_ite_ne, w_ite_lt, Nat.sub_zero, Nat.sub_self, bdv, bds_set']
      refine up_nextG (m + 12) hkl (by omega) ⟨by try simp (maxSteps := 500000) (disch := omega) only [go_sem, Int.reduceEq, Int.reduceLT, Int.reduceLE, Int.reduceToNat, Nat.reduceLT, Nat.reduceEqDiff, Nat.reduceAdd, Nat.reduceLeDiff, Nat.reduceSub, Nat.reduceMul, ↓reduceIte, reduceCtorEq, wrap_id, w_ite_ne, w_ite_lt, Nat.sub_zero, Nat.sub_self]; congr 1; omega, { b with ins := b.ins.set Y ⟨x6, x6 + x8⟩ }, ⟨hL.n1, hL.n5, hls, by simp [hli], hlo, hL.f0, hL.f1, hL.s, set_fit hL.i (by simp only; omega), hL.o⟩, hfr, ?_, ?_, ?_, ?_, ?_, ⟨at8, ?_⟩, fun i hi hne => ?_⟩
      · simp only [St.trunc]; rw [if_pos (by omega), upd_ne _ _ _ _ (c12), upd_ne _ _ _ _ a1, upd_ne _ _ _ _ a1, upd_ne _ _ _ _ a1, upd_ne _ _ _ _ a1, upd_ne _ _ _ _ s1]; exact u1
      · simp only [St.trunc]; rw [if_pos (by omega)]; simp [upd, bds_set']
      · simp only [St.trunc]; rw [if_pos (by omega), upd_ne _ _ _ _ (fun e => c23 e.symm), upd_ne _ _ _ _ a3, upd_ne _ _ _ _ a3, upd_ne _ _ _ _ a3, upd_ne _ _ _ _ a3, upd_ne _ _ _ _ s3]; exact u3
      · simp only [St.trunc]; rw [if_pos (by omega), upd_ne _ _ _ _ (fun e => j2 e.symm), upd_ne _ _ _ _ h4, upd_ne _ _ _ _ h4, upd_ne _ _ _ _ h4, upd_ne _ _ _ _ h4, upd_ne _ _ _ _ s4]; exact u4
      · simp only [St.trunc]; rw [if_pos (by omega), upd_ne _ _ _ _ (fun e => b2 e.symm), upd_ne _ _ _ _ h2, upd_ne _ _ _ _ h2, upd_ne _ _ _ _ h2, upd_ne _ _ _ _ h2, upd_ne _ _ _ _ s5]; exact u5
      · simp only [St.trunc]; rw [if_pos (by omega), upd_ne _ _ _ _ (fun e => a2 e.symm), upd_same]
      · have q1 : ¬ i = m + 6 := by omega
        have q2 : ¬ i = i2 := by have := hlow2; omega
        simp only [St.trunc]; rw [if_pos (by omega), upd_ne _ _ _ _ q2, upd_ne _ _ _ _ hne, upd_ne _ _ _ _ hne, upd_ne _ _ _ _ hne, upd_ne _ _ _ _ hne, upd_ne _ _ _ _ q1]; exact hF i hi hne
    · try simp (maxSteps := 500000) (disch := omega) only [go_sem, Int.reduceEq, Int.reduceLT, Int.reduceLE, Int.reduceToNat, Nat.reduceLT, Nat.reduceEqDiff, Nat.reduceAdd, Nat.reduceLeDiff, Nat.reduceSub, Nat.reduceMul, ↓reduceIte, reduceCtorEq, wrap_id, w_ite_ne, w_ite_lt, Nat.sub_zero, Nat.sub_self, y1, y2]
      refine call_hc (ok_mk_Deck_Next _ id g ty_Deck true t at4 50 (by try simp (maxSteps := 500000) (disch := omega) only [go_sem, Int.reduceEq, Int.reduceLT, Int.reduceLE, Int.reduceToNat, Nat.reduceLT, Nat.reduceEqDiff, Nat.reduceAdd, Nat.reduceLeDiff, Nat.reduceSub, Nat.reduceMul, ↓reduceIte, reduceCtorEq, wrap_id, w_ite_ne, w_ite_lt, Nat.sub_zero, Nat.sub_self]) (by omega) hl) ?_
      have hx6 := deckR_bd t at4 50
      generalize deckR t at4 50 = dr at *
      obtain ⟨x6, at6⟩ := dr
      simp only at hx6
      try simp (maxSteps := 500000) (disch := omega) only [go_sem, Int.reduceEq, Int.reduceLT, Int.reduceLE, Int.reduceToNat, Nat.reduceLT, Nat.reduceEqDiff, Nat.reduceAdd, Nat.reduceLeDiff, Nat.reduceSub, Nat.reduceMul, ↓reduceIte, reduceCtorEq, wrap_id, w_ite_ne, w_ite_lt, Nat.sub_zero, Nat.sub_self]
      refine call_hc (ok_mk_Deck_Next _ id g ty_Deck true t at6 _ (by try simp (maxSteps := 500000) (disch := omega) only [go_sem, Int.reduceEq, Int.reduceLT, Int.reduceLE, Int.reduceToNat, Nat.reduceLT, Nat.reduceEqDiff, Nat.reduceAdd, Nat.reduceLeDiff, Nat.reduceSub, Nat.reduceMul, ↓reduceIte, reduceCtorEq, wrap_id, w_ite_ne, w_ite_lt, Nat.sub_zero, Nat.sub_self]) (by omega) hl) ?_
      have hx7 := deckR_bd t at6 ((n : Nat) : Int)
      generalize deckR t at6 ((n : Nat) : Int) = dr at *
      obtain ⟨x7, at7⟩ := dr
      simp only at hx7
      try simp (maxSteps := 500000) (disch := omega) only [go_sem, Int.reduceEq, Int.reduceLT, Int.reduceLE, Int.reduceToNat, Nat.reduceLT, Nat.reduceEqDiff, Nat.reduceAdd, Nat.reduceLeDiff, Nat.reduceSub, Nat.reduceMul, ↓reduceIte, reduceCtorEq, wrap_id, w_ite_ne, w_ite_lt, Nat.sub_zero, Nat.sub_self]
      refine call_hc (ok_mk_Deck_Next _ id g ty_Deck true t at7 20 (by try simp (maxSteps := 500000) (disch := omega) only [go_sem, Int.reduceEq, Int.reduceLT, Int.reduceLE, Int.reduceToNat, Nat.reduceLT, Nat.reduceEqDiff, Nat.reduceAdd, Nat.reduceLeDiff, Nat.reduceSub, Nat.reduceMul, ↓reduceIte, reduceCtorEq, wrap_id, w_ite_ne, w_ite_lt, Nat.sub_zero, Nat.sub_self]) (by omega) hl) ?_
      have hx8 := deckR_bd t at7 20
      generalize deckR t at7 20 = dr at *
      obtain ⟨x8, at8⟩ := dr
      simp only at hx8
      obtain ⟨Y, hY⟩ : ∃ Y : Nat, (Y : Int) = x7 ∧ Y < n := ⟨x7.toNat, by omega, by omega⟩
      obtain ⟨rfl, hY⟩ := hY
      have hbl := bds_length b.outs
      try simp (maxSteps := 500000) (disch := omega) only [go_sem, Int.reduceEq, Int.reduceLT, Int.reduceLE, Int.reduceToNat, Nat.reduceLT, Nat.reduceEqDiff, Nat.reduceAdd, Nat.reduceLeDiff, Nat.reduceSub, Nat.reduceMul, ↓reduceIte, reduceCtorEq, wrap_id, w_ite_ne, w_ite_lt, Nat.sub_zero, Nat.sub_self, h7, a3, s3, u3, hbl, hlo]
      have eY := gB_get (L := b.outs) (i := Y) (by omega)
      refine ⟨by omega, by omega, bdv (gB b.outs Y), by rw [bds_get, eY]; rfl, ?_⟩
      try simp (maxSteps := 500000) (disch := omega) only [go_sem, Int.reduceEq, Int.reduceLT, Int.reduceLE, Int.reduceToNat, Nat.reduceLT, Nat.reduceEqDiff, Nat.reduceAdd, Nat.reduceLeDiff, Nat.reduceSub, Nat.reduceMul, ↓reduceIte, reduceCtorEq, wrap_id, w_ite_ne, w_ite_lt, Nat.sub_zero, Nat.sub_self, bdv, bds_set']
      refine up_nextG (m + 12) hkl (by omega) ⟨by try simp (maxSteps := 500000) (disch := omega) only [go_sem, Int.reduceEq, Int.reduceLT, Int.reduceLE, Int.reduceToNat, Nat.reduceLT, Nat.reduceEqDiff, Nat.reduceAdd, Nat.reduceLeDiff, Nat.reduceSub, Nat.reduceMul, ↓reduceIte, reduceCtorEq, wrap_id, w_ite_ne, w_ite_lt, Nat.sub_zero, Nat.sub_self]; congr 1; omega, { b with outs := b.outs.set Y ⟨x6, x6 + x8⟩ }, ⟨hL.n1, hL.n5, hls, hli, by simp [hlo], hL.f0, hL.f1, hL.s, hL.i, set_fit hL.o (by simp only; omega)⟩, hfr, ?_, ?_, ?_, ?_, ?_, ⟨at8, ?_⟩, fun i hi hne => ?_⟩
      · simp only [St.trunc]; rw [if_pos (by omega), upd_ne _ _ _ _ (c13), upd_ne _ _ _ _ a1, upd_ne _ _ _ _ a1, upd_ne _ _ _ _ a1, upd_ne _ _ _ _ a1, upd_ne _ _ _ _ s1]; exact u1
      · simp only [St.trunc]; rw [if_pos (by omega), upd_ne _ _ _ _ (c23), upd_ne _ _ _ _ a2, upd_ne _ _ _ _ a2, upd_ne _ _ _ _ a2, upd_ne _ _ _ _ a2, upd_ne _ _ _ _ s2]; exact u2
      · simp only [St.trunc]; rw [if_pos (by omega)]; simp [upd, bds_set']
      · simp only [St.trunc]; rw [if_pos (by omega), upd_ne _ _ _ _ (fun e => j3 e.symm), upd_ne _ _ _ _ h4, upd_ne _ _ _ _ h4, upd_ne _ _ _ _ h4, upd_ne _ _ _ _ h4, upd_ne _ _ _ _ s4]; exact u4
      · simp only [St.trunc]; rw [if_pos (by omega), upd_ne _ _ _ _ (fun e => b3 e.symm), upd_ne _ _ _ _ h2, upd_ne _ _ _ _ h2, upd_ne _ _ _ _ h2, upd_ne _ _ _ _ h2, upd_ne _ _ _ _ s5]; exact u5
      · simp only [St.trunc]; rw [if_pos (by omega), upd_ne _ _ _ _ (fun e => a3 e.symm), upd_same]
      · have q1 : ¬ i = m + 6 := by omega
        have q2 : ¬ i = i3 := by have := hlow3; omega
        simp only [St.trunc]; rw [if_pos (by omega), upd_ne _ _ _ _ q2, upd_ne _ _ _ _ hne, upd_ne _ _ _ _ hne, upd_ne _ _ _ _ hne, upd_ne _ _ _ _ hne, upd_ne _ _ _ _ q1]; exact hF i hi hne
  · try simp (maxSteps := 500000) (disch := omega) only [go_sem, Int.reduceEq, Int.reduceLT, Int.reduceLE, Int.reduceToNat, Nat.reduceLT, Nat.reduceEqDiff, Nat.reduceAdd, Nat.reduceLeDiff, Nat.reduceSub, Nat.reduceMul, ↓reduceIte, reduceCtorEq, wrap_id, w_ite_ne, w_ite_lt, Nat.sub_zero, Nat.sub_self, u4, u5]
    have pb : ∀ {R gg l : Nat} {B : List Bd}, ob R = some ⟨gg, 2, 28, false, true, bds B⟩ → n0 < R → R < m1 → l = B.length → Pub ⟨fun i => if i < n0 then none else upd ob n0 (some ⟨c0, 4, 33, false, true, [.agg [.int .i64 a.fr, .sl i1 g1 2 0 (n + 1), .sl i2 g2 2 0 n, .sl i3 g3 2 0 n]]⟩) i, m, c⟩ (.sl R gg 2 0 l) (.list 2 (bds B)) := fun hu h1 h2 h3 => by
      refine SlR.pub (ty := 28) (σ := ⟨ob, m, c⟩) (.inr ⟨_, _, by rw [bds_length, h3], by simp only; omega, hu⟩) (fun i _ hno => ?_) (bds_pur _) (bds_ok _)
      have e : i = _ := (Classical.not_not.1 fun h => hno (Oth.sl fun e => h e.symm))
      subst e
      simp only
      rw [if_neg (by omega), upd_ne _ _ _ _ (by omega)]
    refine ⟨acv b, at3, Pub.ag (.cons (by rw [hfr]; exact .pure rfl) (.cons (pb u1 hlow1 hi1 hls.symm) (.cons (pb u2 hlow2 hi2 hli.symm) (.cons (pb u3 hlow3 hi3 hlo.symm) .nil)))), ⟨b, n, rfl, hL⟩, ?_, fun i hi hne => ?_⟩
    · simp only; rw [upd_ne _ _ _ _ h0]; exact hd
    · simp only at hi ⊢; rw [upd_ne _ _ _ _ (by omega)]; exact hF i hi hne
end Go.Proofs.Try
