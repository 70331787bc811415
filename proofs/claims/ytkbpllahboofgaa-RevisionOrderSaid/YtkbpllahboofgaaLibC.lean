/- OWN WORK, put together by tools/asm.py, seat.py, mini.py. -/
import Derived.Test.YtkbpllahboofgaaLibB
set_option linter.unusedSimpArgs false
set_option linter.unusedVariables false
set_option maxRecDepth 100000
set_option maxHeartbeats 1000000
namespace Go.Proofs.Try
open Go.Ab Go
open Int renaming reduceEq → jA, reduceLT → jB, reduceLE → jC, reduceToNat → jD
open Go.Ab renaming w_ite_ne → jM, w_ite_lt → jN, wrap_id → jO, w_app_nl → jP
open Nat renaming reduceLT → jE, reduceEqDiff → jF, reduceAdd → jG, reduceLeDiff → jH, reduceSub → jI, reduceMul → jJ, sub_zero → jK, sub_self → jL
def fldL (a : Ac) (f : Nat) : List Bd := if f = 1 then a.st else if f = 2 then a.ins else a.outs
def setL (a : Ac) (f : Nat) (l : List Bd) : Ac := if f = 1 then ⟨a.fr, l, a.ins, a.outs⟩ else if f = 2 then ⟨a.fr, a.st, l, a.outs⟩ else ⟨a.fr, a.st, a.ins, l⟩
def nth3 {α : Type} (f : Nat) (s x y : α) : α := if f = 1 then s else if f = 2 then x else y
theorem AcOK.l {a : Ac} (h : AcOK a) : AcL a := by
 have := h.n2; have := h.no; have := h.ns
 exact ⟨by omega, by omega, by omega⟩
def fixS (a : Ac) (field time : Int) (b : Bd) : Ac × Int :=
 if chk a ≠ 0 then (acZ, chk a)
 else if field < 1 ∨ 3 < field then (acZ, 5)
 else if time < a.fr ∨ a.fr + ((fldL a field.toNat).length : Int) ≤ time then (acZ, 6)
 else match narB (gB (fldL a field.toNat) (time - a.fr).toNat) b with
  | none => (acZ, 48)
  | some d => (setL a field.toNat ((fldL a field.toNat).set (time - a.fr).toNat d), 0)
theorem ok_ledger_Fix (a : Ac) (hl : AcL a) (field time : Int) (b : Bd) (hf : -9223372036854775808 ≤ field ∧ field ≤ 9223372036854775807) (ht : -9223372036854775808 ≤ time ∧ time ≤ 9223372036854775807) :
  PC prog n_ledger_Fix [acv a, .int .i64 field, .int .i64 time, bdv b] (.tuple [acv (fixS a field time b).1, .int .i64 (fixS a field time b).2]) := by
 have no : ∀ {σ : St} {e : Int}, fixS a field time b = (acZ, e) → Pub σ (.tuple [.agg [.int .i64 0, .nil, .nil, .nil], .int .i64 e]) (.tuple [acv (fixS a field time b).1, .int .i64 (fixS a field time b).2]) := by
  intro σ e h
  rw [h]
  exact Pub.pair (Pub.ag (.cons (.pure rfl) (.cons (.nl 2) (.cons (.nl 2) (.cons (.nl 2) .nil))))) (.pure rfl)
 refine PC_of_body b_ledger_Fix (by simp) ?_
 simp only [c_ledger_Fix, go_sem, jA, jB, jC, jD, jE, jF, jG, jH, jI, jJ, ↓reduceIte, reduceCtorEq, jP, acv, bdv]
 refine call_pc (ok_ledger_Check a hl) (by simp [go_sem, acv, bds_pur]) ?_
 try simp (disch := omega) only [go_sem, jA, jB, jC, jD, jE, jF, jG, jH, jI, jJ, ↓reduceIte, reduceCtorEq, jO, jM, jN, jK, jL]
 refine cond_n (fun h => ?_) (fun h => ?_) <;> try simp (disch := omega) only [go_sem, jA, jB, jC, jD, jE, jF, jG, jH, jI, jJ, ↓reduceIte, reduceCtorEq, jO, jM, jN, jK, jL]
 ·exact no (by simp only [fixS, if_pos h])
 have hc : ¬ chk a ≠ 0 := by simp [h]
 have hok := chk_ok.1 h
 have hLs := hok.ns
 have hLy := hok.no
 have hLn := hok.n2
 have hf0 := hok.f0
 have hf1 := hok.f1
 refine gd_fd rfl (fun h1 => ?_) (fun h1 => ?_) <;> try simp (disch := omega) only [go_sem, jA, jB, jC, jD, jE, jF, jG, jH, jI, jJ, ↓reduceIte, reduceCtorEq, jO, jM, jN, jK, jL]
 ·exact no (by simp only [fixS, if_neg hc]; rw [if_pos (.inl h1)])
 refine cond_d (fun h2 => ?_) (fun h2 => ?_) <;> try simp (disch := omega) only [go_sem, jA, jB, jC, jD, jE, jF, jG, jH, jI, jJ, ↓reduceIte, reduceCtorEq, jO, jM, jN, jK, jL]
 ·exact no (by simp only [fixS, if_neg hc]; rw [if_pos (.inr h2)])
 have hfd : ¬ (field < 1 ∨ 3 < field) := by omega
 refine (hc_ledger_twin _ a (by omega) (by omega) (by omega)).mono ?_
 rintro _ τ ⟨o1, o2, o3, rfl, hO, g1, g2, g3, hA⟩
 obtain ⟨ob, m, c⟩ := τ
 have hm : 3 ≤ m := by have := hA.1; simpa [go_sem] using this
 have w0 := hA.2 0 (by simp [go_sem])
 have w1 := hA.2 1 (by simp [go_sem])
 have w2 := hA.2 2 (by simp [go_sem])
 have l1 := hO.l1
 have l2 := hO.l2
 have l3 := hO.l3
 simp (maxSteps := 1000000) only [go_sem, jA, jB, jC, jD, jE, jF, jG, jH, jI, jJ, ↓reduceIte, reduceCtorEq, jP] at w0 w1 w2 g1 g2 g3 l1 l2 l3
 try simp (disch := omega) only [go_sem, jA, jB, jC, jD, jE, jF, jG, jH, jI, jJ, ↓reduceIte, reduceCtorEq, jO, jM, jN, jK, jL, acO]
 refine (hc_ledger_lists _ m c _ _ _ _ _ (by try simp (disch := omega) only [go_sem, jA, jB, jC, jD, jE, jF, jG, jH, jI, jJ, ↓reduceIte, reduceCtorEq, jO, jM, jN, jK, jL]; rfl) rfl rfl rfl (by simp only; omega)).mono ?_
 rintro _ ⟨ob2, m2, c2⟩ ⟨rfl, hn2, hA2⟩
 simp only at hn2 hA2
 have hk : ∀ i, i < m → ob2 i = ob i := fun i hi => (hA2 i (by omega)).trans (by rw [upd_ne _ _ _ _ (by omega), upd_ne _ _ _ _ (by omega)])
 have vm : ob2 m = _ := (hA2 m (by omega)).trans (upd_same _ _ _)
 have v0 := (hk 0 (by omega)).trans w0
 have v1 := (hk 1 (by omega)).trans w1
 have v2 := (hk 2 (by omega)).trans w2
 have p1 := (hk _ l1).trans hO.h1
 have p2 := (hk _ l2).trans hO.h2
 have p3 := (hk _ l3).trans hO.h3
 have n12 := hO.n12
 have n13 := hO.n13
 have n23 := hO.n23
 have nm1 : ¬ m = o1.1 := by omega
 have nm2 : ¬ m = o2.1 := by omega
 have nm3 : ¬ m = o3.1 := by omega
 have d21 : ¬ m = 2 := by omega
 have fin : ∀ (ob3 : Nat → Option AObj) (n3 c3 : Nat) (A : AObj) (L1 L2 L3 : List Bd), ob3 o1.1 = some ⟨o1.2, 2, ty_el_Bounds, false, true, bds L1⟩ → ob3 o2.1 = some ⟨o2.2, 2, ty_el_Bounds, false, true, bds L2⟩ → ob3 o3.1 = some ⟨o3.2, 2, ty_el_Bounds, false, true, bds L3⟩ →
   a.st.length = L1.length → a.ins.length = L2.length → a.outs.length = L3.length → fixS a field time b = (⟨a.fr, L1, L2, L3⟩, 0) →
   Pub ⟨upd ob3 2 (some A), n3, c3⟩ (.tuple [acO a.fr o1 o2 o3 a.st.length a.ins.length a.outs.length, .int .i64 0]) (.tuple [acv (fixS a field time b).1, .int .i64 (fixS a field time b).2]) := by
  intro ob3 n3 c3 A L1 L2 L3 q1 q2 q3 s1 s2 s3 hr
  rw [hr]
  have n1 : ¬ o1.1 = 2 := by omega
  have n2 : ¬ o2.1 = 2 := by omega
  have n3' : ¬ o3.1 = 2 := by omega
  exact Pub.pair (Pub.ag (.cons (.pure rfl) (.cons (pub_bds ((upd_ne _ _ _ _ n1).trans q1) s1) (.cons (pub_bds ((upd_ne _ _ _ _ n2).trans q2) s2) (.cons (pub_bds ((upd_ne _ _ _ _ n3').trans q3) s3) .nil))))) (.pure rfl)
 have hfix : fixS a field time b = (if time < a.fr ∨ a.fr + ((fldL a field.toNat).length : Int) ≤ time then (acZ, 6) else match narB (gB (fldL a field.toNat) (time - a.fr).toNat) b with
  | none => (acZ, 48)
  | some d => (setL a field.toNat ((fldL a field.toNat).set (time - a.fr).toNat d), 0) : Ac × Int) := by simp only [fixS]; rw [if_neg hc, if_neg hfd]
 rcases (by omega : field = 1 ∨ field = 2 ∨ field = 3) with rfl | rfl | rfl
 ·rw [show fldL a (Int.toNat 1) = a.st from rfl] at hfix
  try simp (disch := omega) only [go_sem, jA, jB, jC, jD, jE, jF, jG, jH, jI, jJ, ↓reduceIte, reduceCtorEq, jO, jM, jN, jK, jL, v0, Int.reduceSub, Int.reduceAdd]
  refine gd_fd rfl (fun h3 => ?_) (fun h3 => ?_) <;> try simp (disch := omega) only [go_sem, jA, jB, jC, jD, jE, jF, jG, jH, jI, jJ, ↓reduceIte, reduceCtorEq, jO, jM, jN, jK, jL, v0, v2]
  ·exact no (by rw [hfix, if_pos (.inl h3)])
  refine cond_d (fun h4 => ?_) (fun h4 => ?_) <;> try simp (disch := omega) only [go_sem, jA, jB, jC, jD, jE, jF, jG, jH, jI, jJ, ↓reduceIte, reduceCtorEq, jO, jM, jN, jK, jL, v0, v2]
  ·exact no (by rw [hfix, if_pos (.inr (by omega))])
  rw [if_neg (by omega)] at hfix
  obtain ⟨i, hi⟩ : ∃ i : Nat, time - a.fr = i := ⟨(time - a.fr).toNat, by omega⟩
  have hil : i < a.st.length := by omega
  rw [hi, Int.toNat_natCast] at hfix
  try simp (disch := omega) only [go_sem, jA, jB, jC, jD, jE, jF, jG, jH, jI, jJ, ↓reduceIte, reduceCtorEq, jO, jM, jN, jK, jL, v0, v1, hi, Int.toNat_natCast]
  refine ⟨⟨_, p1, rfl⟩, by omega, by omega, ?_⟩
  refine (hc_ledger_narrow _ o1.1 o1.2 i ty_el_Bounds a.st (gB a.st i) b p1 (gB_get hil) (by simp only; omega)).mono ?_
  rintro _ ⟨ob3, m3, c3⟩ ⟨rfl, k1, k2, k3⟩
  simp only at k1 k2 k3
  have u1 := (k3 2 (by omega) (by omega)).trans v2
  have um := (k3 m (by omega) (by omega)).trans vm
  cases hn : narB (gB a.st i) b with
  | none =>
   rw [hn] at hfix
   try simp (disch := omega) only [go_sem, jA, jB, jC, jD, jE, jF, jG, jH, jI, jJ, ↓reduceIte, reduceCtorEq, jO, jM, jN, jK, jL, Option.isSome, u1]
   exact no hfix
  | some d =>
   rw [hn] at hfix k2
   simp only [Option.getD_some] at k2
   try simp (disch := omega) only [go_sem, jA, jB, jC, jD, jE, jF, jG, jH, jI, jJ, ↓reduceIte, reduceCtorEq, jO, jM, jN, jK, jL, Option.isSome, um, u1, d21]
   exact fin _ _ _ _ (a.st.set i d) a.ins a.outs k2 ((k3 _ (by omega) n12.symm).trans p2) ((k3 _ (by omega) n13.symm).trans p3) (by simp) rfl rfl hfix
 ·rw [show fldL a (Int.toNat 2) = a.ins from rfl] at hfix
  try simp (disch := omega) only [go_sem, jA, jB, jC, jD, jE, jF, jG, jH, jI, jJ, ↓reduceIte, reduceCtorEq, jO, jM, jN, jK, jL, v0, Int.reduceSub, Int.reduceAdd]
  refine gd_fd rfl (fun h3 => ?_) (fun h3 => ?_) <;> try simp (disch := omega) only [go_sem, jA, jB, jC, jD, jE, jF, jG, jH, jI, jJ, ↓reduceIte, reduceCtorEq, jO, jM, jN, jK, jL, v0, v2]
  ·exact no (by rw [hfix, if_pos (.inl h3)])
  refine cond_d (fun h4 => ?_) (fun h4 => ?_) <;> try simp (disch := omega) only [go_sem, jA, jB, jC, jD, jE, jF, jG, jH, jI, jJ, ↓reduceIte, reduceCtorEq, jO, jM, jN, jK, jL, v0, v2]
  ·exact no (by rw [hfix, if_pos (.inr (by omega))])
  rw [if_neg (by omega)] at hfix
  obtain ⟨i, hi⟩ : ∃ i : Nat, time - a.fr = i := ⟨(time - a.fr).toNat, by omega⟩
  have hil : i < a.ins.length := by omega
  rw [hi, Int.toNat_natCast] at hfix
  try simp (disch := omega) only [go_sem, jA, jB, jC, jD, jE, jF, jG, jH, jI, jJ, ↓reduceIte, reduceCtorEq, jO, jM, jN, jK, jL, v0, v1, hi, Int.toNat_natCast]
  refine ⟨⟨_, p2, rfl⟩, by omega, by omega, ?_⟩
  refine (hc_ledger_narrow _ o2.1 o2.2 i ty_el_Bounds a.ins (gB a.ins i) b p2 (gB_get hil) (by simp only; omega)).mono ?_
  rintro _ ⟨ob3, m3, c3⟩ ⟨rfl, k1, k2, k3⟩
  simp only at k1 k2 k3
  have u1 := (k3 2 (by omega) (by omega)).trans v2
  have um := (k3 m (by omega) (by omega)).trans vm
  cases hn : narB (gB a.ins i) b with
  | none =>
   rw [hn] at hfix
   try simp (disch := omega) only [go_sem, jA, jB, jC, jD, jE, jF, jG, jH, jI, jJ, ↓reduceIte, reduceCtorEq, jO, jM, jN, jK, jL, Option.isSome, u1]
   exact no hfix
  | some d =>
   rw [hn] at hfix k2
   simp only [Option.getD_some] at k2
   try simp (disch := omega) only [go_sem, jA, jB, jC, jD, jE, jF, jG, jH, jI, jJ, ↓reduceIte, reduceCtorEq, jO, jM, jN, jK, jL, Option.isSome, um, u1, d21]
   exact fin _ _ _ _ a.st (a.ins.set i d) a.outs ((k3 _ (by omega) n12).trans p1) k2 ((k3 _ (by omega) n23.symm).trans p3) rfl (by simp) rfl hfix
 ·rw [show fldL a (Int.toNat 3) = a.outs from rfl] at hfix
  try simp (disch := omega) only [go_sem, jA, jB, jC, jD, jE, jF, jG, jH, jI, jJ, ↓reduceIte, reduceCtorEq, jO, jM, jN, jK, jL, v0, Int.reduceSub, Int.reduceAdd]
  refine gd_fd rfl (fun h3 => ?_) (fun h3 => ?_) <;> try simp (disch := omega) only [go_sem, jA, jB, jC, jD, jE, jF, jG, jH, jI, jJ, ↓reduceIte, reduceCtorEq, jO, jM, jN, jK, jL, v0, v2]
  ·exact no (by rw [hfix, if_pos (.inl h3)])
  refine cond_d (fun h4 => ?_) (fun h4 => ?_) <;> try simp (disch := omega) only [go_sem, jA, jB, jC, jD, jE, jF, jG, jH, jI, jJ, ↓reduceIte, reduceCtorEq, jO, jM, jN, jK, jL, v0, v2]
  ·exact no (by rw [hfix, if_pos (.inr (by omega))])
  rw [if_neg (by omega)] at hfix
  obtain ⟨i, hi⟩ : ∃ i : Nat, time - a.fr = i := ⟨(time - a.fr).toNat, by omega⟩
  have hil : i < a.outs.length := by omega
  rw [hi, Int.toNat_natCast] at hfix
  try simp (disch := omega) only [go_sem, jA, jB, jC, jD, jE, jF, jG, jH, jI, jJ, ↓reduceIte, reduceCtorEq, jO, jM, jN, jK, jL, v0, v1, hi, Int.toNat_natCast]
  refine ⟨⟨_, p3, rfl⟩, by omega, by omega, ?_⟩
  refine (hc_ledger_narrow _ o3.1 o3.2 i ty_el_Bounds a.outs (gB a.outs i) b p3 (gB_get hil) (by simp only; omega)).mono ?_
  rintro _ ⟨ob3, m3, c3⟩ ⟨rfl, k1, k2, k3⟩
  simp only at k1 k2 k3
  have u1 := (k3 2 (by omega) (by omega)).trans v2
  have um := (k3 m (by omega) (by omega)).trans vm
  cases hn : narB (gB a.outs i) b with
  | none =>
   rw [hn] at hfix
   try simp (disch := omega) only [go_sem, jA, jB, jC, jD, jE, jF, jG, jH, jI, jJ, ↓reduceIte, reduceCtorEq, jO, jM, jN, jK, jL, Option.isSome, u1]
   exact no hfix
  | some d =>
   rw [hn] at hfix k2
   simp only [Option.getD_some] at k2
   try simp (disch := omega) only [go_sem, jA, jB, jC, jD, jE, jF, jG, jH, jI, jJ, ↓reduceIte, reduceCtorEq, jO, jM, jN, jK, jL, Option.isSome, um, u1, d21]
   exact fin _ _ _ _ a.st a.ins (a.outs.set i d) ((k3 _ (by omega) n13).trans p1) ((k3 _ (by omega) n23).trans p2) k2 rfl rfl (by simp) hfix
def sq (a t : Ac) : Nat → Int
 | 0 => (gB t.st 0).lo
 | i + 1 => max (gB t.st (i + 1)).lo (sq a t i + (gB a.ins i).lo - (gB a.outs i).hi)
def cm (a t : Ac) (i : Nat) : Int := max (gB a.ins i).lo ((gB a.outs i).lo + (sq a t (i + 1) - sq a t i))
def og (a t : Ac) (i : Nat) : Int := cm a t i - (sq a t (i + 1) - sq a t i)
def mkI (n : Nat) (f : Nat → Int) : List Int := (List.range n).map f
theorem mkI_length (n : Nat) (f : Nat → Int) : (mkI n f).length = n := by simp [mkI]
theorem mkI_get {n i : Nat} (f : Nat → Int) (h : i < n) : (mkI n f)[i]? = some (f i) := by simp [mkI, h]
theorem mkI_getD {n i : Nat} (f : Nat → Int) (h : i < n) : (mkI n f).getD i 0 = f i := by rw [List.getD_eq_getElem?_getD, mkI_get f h]; rfl
theorem mkI_snoc (n : Nat) (f : Nat → Int) : mkI (n + 1) f = mkI n f ++ [f n] := by simp [mkI, List.range_succ]
theorem mkI_one (f : Nat → Int) : mkI 1 f = [f 0] := rfl
def firstS (a : Ac) : (List Int × List Int × List Int) × Int :=
 if (tightS a).2 ≠ 0 then (([], [], []), (tightS a).2)
 else ((mkI (a.ins.length + 1) (sq a (tightS a).1), mkI a.ins.length (cm a (tightS a).1), mkI a.ins.length (og a (tightS a).1)), 0)
theorem tightS_ok {a : Ac} (h : (tightS a).2 = 0) : AcOK a ∧ VD a.st a.ins a.outs a.ins.length ∧ (tightS a).1 = tgt a := by
 unfold tightS at h ⊢
 split at h
 ·rename_i h1; exact absurd h h1
 ·rename_i h1
  simp only [ne_eq, Decidable.not_not] at h1
  rw [if_neg (by simp [h1])]
  split at h
  ·rename_i h2; rw [if_pos h2]; exact ⟨chk_ok.1 h1, vdB_iff.1 h2, rfl⟩
  ·cases h
theorem tgt_st {a : Ac} {i : Nat} (h : i ≤ a.ins.length) : gB (tgt a).st i = cB a.st a.ins a.outs a.ins.length i := gB_mk _ (by omega)
theorem sq_in {a : Ac} (h : AcOK a) (hv : VD a.st a.ins a.outs a.ins.length) : ∀ i, i ≤ a.ins.length → inB (cB a.st a.ins a.outs a.ins.length i) (sq a (tgt a) i)
 | 0, hi => by
  have := (h.lens.vd hv).B hi
  rw [sq, tgt_st hi]
  simp only [inB, valB, cB] at *
  omega
 | i + 1, hi => by
  have h1 := sq_in h hv i (by omega)
  have h2 := (h.lens.vd hv).B hi
  rw [sq, tgt_st hi]
  unfold cB at *
  rw [chB_step (by omega)] at h1
  simp only [inB, valB, meetB, bwB] at *
  omega
theorem first_hi {a : Ac} (h : AcOK a) (hv : VD a.st a.ins a.outs a.ins.length) : Hi (gB a.st) (gB a.ins) (gB a.outs) a.ins.length (sq a (tgt a)) (cm a (tgt a)) (og a (tgt a)) := by
 have key : ∀ i, i < a.ins.length → inB (gB a.ins i) (cm a (tgt a) i) ∧ inB (gB a.outs i) (og a (tgt a) i) := fun i hi => by
  have h1 := sq_in h hv i (by omega)
  have h2 := sq_in h hv (i + 1) (by omega)
  have h3 := (h.lens.gx hi).val
  have h4 := (h.lens.gy hi).val
  have h5 : sq a (tgt a) (i + 1) = max (gB (tgt a).st (i + 1)).lo (sq a (tgt a) i + (gB a.ins i).lo - (gB a.outs i).hi) := rfl
  rw [tgt_st (by omega)] at h5
  unfold cB at h1 h2 h5
  rw [chB_step hi] at h1
  unfold og cm
  generalize sq a (tgt a) (i + 1) = s' at *
  generalize sq a (tgt a) i = s at *
  simp only [inB, valB, meetB, bwB] at *
  omega
 refine ⟨fun i hi => chF_sub i _ (chB_F hi (sq_in h hv i hi)), fun i hi => (key i hi).1, fun i hi => (key i hi).2, fun i hi => ?_⟩
 unfold og; omega
def Dj (X Y : AV) : Prop := ∀ i, Oth X i ∨ Oth Y i
theorem Dj.symm {X Y : AV} (h : Dj X Y) : Dj Y X := fun i => (h i).symm
theorem Dj.nil (X : AV) : Dj .nil X := fun i => .inl (Oth.nil i)
theorem Dj.kp {X X' Y : AV} {es : Nat} {ty : TypeId} {σ τ : St} {L : List AV} (h : Dj X Y) (hY : SlR es ty σ L Y) (hK : Kp σ X τ X') : Dj X' Y := fun i => by
 rcases Classical.em (Oth Y i) with h1 | h1
 ·exact .inr h1
 ·refine .inl (hK.2.2 i ?_ ((h i).resolve_right h1))
  rcases Nat.lt_or_ge i σ.n with h2 | h2
  ·exact h2
  ·exact absurd (hY.oth h2) h1
theorem SlR.dj {X X' Y : AV} {es : Nat} {ty : TypeId} {σ τ : St} {L : List AV} (hY : SlR es ty σ L Y) (h : Dj X Y) (hK : Kp σ X τ X') : SlR es ty τ L Y := hY.move hK.1 fun i hi hno => hK.2.1 i hi ((h i).resolve_right hno)
structure Tri (σ : St) (X8 X9 X10 : AV) (A B C : List Int) (q : Nat) : Prop where
 r8 : SlR 1 3 σ (ints A) X8
 r9 : SlR 1 3 σ (ints B) X9
 r10 : SlR 1 3 σ (ints C) X10
 o8 : ∀ i, i < q → Oth X8 i
 o9 : ∀ i, i < q → Oth X9 i
 o10 : ∀ i, i < q → Oth X10 i
 d89 : Dj X8 X9
 d810 : Dj X8 X10
 d910 : Dj X9 X10
theorem ints_one (L : List Int) (x : Int) : ints L ++ [.int .i64 x] = ints (L ++ [x]) := by simp [ints]
section
variable {σ τ : St} {X8 X9 X10 X : AV} {A B C : List Int} {q : Nat}
theorem Tri.mv (h : Tri σ X8 X9 X10 A B C q) (hn : σ.n ≤ τ.n) (hf : ∀ i, q ≤ i → i < σ.n → τ.ob i = σ.ob i) : Tri τ X8 X9 X10 A B C q := by
 have key : ∀ {Y : AV} {L : List AV}, SlR 1 3 σ L Y → (∀ i, i < q → Oth Y i) → SlR 1 3 τ L Y := fun hY o => hY.move hn fun i hi hno => hf i (by
  rcases Nat.lt_or_ge i q with h | h
  ·exact absurd (o i h) hno
  ·exact h) hi
 exact ⟨key h.r8 h.o8, key h.r9 h.o9, key h.r10 h.o10, h.o8, h.o9, h.o10, h.d89, h.d810, h.d910⟩
theorem Tri.app8 (h : Tri σ X8 X9 X10 A B C q) (hq : q ≤ σ.n) {x : Int} (hR : SlR 1 3 τ (ints A ++ [.int .i64 x]) X) (hK : Kp σ X8 τ X) : Tri τ X X9 X10 (A ++ [x]) B C q :=
 ⟨by rw [← ints_one]; exact hR, h.r9.dj h.d89 hK, h.r10.dj h.d810 hK, fun i hi => hK.2.2 i (by omega) (h.o8 i hi), h.o9, h.o10, h.d89.kp h.r9 hK, h.d810.kp h.r10 hK, h.d910⟩
theorem Tri.app9 (h : Tri σ X8 X9 X10 A B C q) (hq : q ≤ σ.n) {x : Int} (hR : SlR 1 3 τ (ints B ++ [.int .i64 x]) X) (hK : Kp σ X9 τ X) : Tri τ X8 X X10 A (B ++ [x]) C q :=
 ⟨h.r8.dj h.d89.symm hK, by rw [← ints_one]; exact hR, h.r10.dj h.d910 hK, h.o8, fun i hi => hK.2.2 i (by omega) (h.o9 i hi), h.o10, (h.d89.symm.kp h.r8 hK).symm, h.d810, h.d910.kp h.r10 hK⟩
theorem Tri.app10 (h : Tri σ X8 X9 X10 A B C q) (hq : q ≤ σ.n) {x : Int} (hR : SlR 1 3 τ (ints C ++ [.int .i64 x]) X) (hK : Kp σ X10 τ X) : Tri τ X8 X9 X A B (C ++ [x]) q :=
 ⟨h.r8.dj h.d810.symm hK, h.r9.dj h.d910.symm hK, by rw [← ints_one]; exact hR, h.o8, h.o9, fun i hi => hK.2.2 i (by omega) (h.o10 i hi), h.d89, (h.d810.symm.kp h.r8 hK).symm, (h.d910.symm.kp h.r9 hK).symm⟩
theorem Tri.ren {id g g2 l l2 : Nat} {x : Int} (h : Tri σ (.sl id g 1 0 l) X9 X10 A B C q) (hn : σ.n ≤ τ.n) (hq : q ≤ id) (hid : id < σ.n) (hl : l2 = A.length + 1) (ho : τ.ob id = some ⟨g2, 1, 3, false, true, ints A ++ [.int .i64 x]⟩) (hf : ∀ i, i < σ.n → i ≠ id → τ.ob i = σ.ob i) : Tri τ (.sl id g2 1 0 l2) X9 X10 (A ++ [x]) B C q := by
 have key : ∀ {Y : AV} {L : List AV}, SlR 1 3 σ L Y → Dj (.sl id g 1 0 l) Y → SlR 1 3 τ L Y := fun hY hd => hY.move hn fun i hi hno => hf i hi fun e => (hd i).elim (fun h => h.ne e.symm) hno
 have key2 : ∀ {Y : AV}, Dj (.sl id g 1 0 l) Y → Dj (.sl id g2 1 0 l2) Y := fun hd i => (hd i).imp_left fun h => Oth.sl h.ne
 refine ⟨.inr ⟨id, g2, by rw [hl, ints_length]; simp, by omega, by rw [ho, ints_one]⟩, key h.r9 h.d89, key h.r10 h.d810, fun i hi => Oth.sl (by omega), h.o9, h.o10, key2 h.d89, key2 h.d810, h.d910⟩
theorem Tri.id_le {id g l : Nat} (h : Tri σ (.sl id g 1 0 l) X9 X10 A B C q) : q ≤ id := by
 rcases Nat.lt_or_ge id q with hh | hh
 ·exact absurd rfl (h.o8 id hh).ne
 ·exact hh
theorem app8_tri {b : Nat} {x : Int} {K : AV → St → Prop} (h : Tri σ X8 X9 X10 A B C q) (hq : q ≤ σ.n) (hm : A.length + 1 ≤ 1000) (hb : b ≤ 1000) (k : ∀ X τ, Tri τ X X9 X10 (A ++ [x]) B C q → σ.n ≤ τ.n → (∀ i, i < q → τ.ob i = σ.ob i) → K X τ) : appC 1 b 3 X8 (.list 1 [.int .i64 x]) σ K := by
 have hl : (ints A).length = A.length := ints_length A
 refine app_slr (b := b) h.r8 (by omega) (Nat.le_trans (Nat.mul_le_mul (hl ▸ hm) hb) (by omega)) fun X τ hR hK => ?_
 exact k X τ (h.app8 hq hR hK) hK.1 fun i hi => hK.2.1 i (by omega) (h.o8 i hi)
theorem Tri.swap (h : Tri σ X8 X9 X10 A B C q) : Tri σ X9 X10 X8 B C A q := ⟨h.r9, h.r10, h.r8, h.o9, h.o10, h.o8, h.d910, h.d89.symm, h.d810.symm⟩
end
theorem app9_triK {σ : St} {X8 X9 X10 : AV} {A B C : List Int} {q b : Nat} {x : Int} {K : AV → St → Prop} (h : Tri σ X8 X9 X10 A B C q) (hq : q ≤ σ.n) (hm : B.length + 1 ≤ 1000) (hb : b ≤ 1000) (k : ∀ X τ, Tri τ X8 X X10 A (B ++ [x]) C q → Kp σ X9 τ X → (∀ i, i < q → τ.ob i = σ.ob i) → K X τ) : appC 1 b 3 X9 (.list 1 [.int .i64 x]) σ K := by
 have hl : (ints B).length = B.length := ints_length B
 refine app_slr (b := b) h.r9 (by omega) (Nat.le_trans (Nat.mul_le_mul (hl ▸ hm) hb) (by omega)) fun X τ hR hK => ?_
 exact k X τ (h.app9 hq hR hK) hK fun i hi => hK.2.1 i (by omega) (h.o9 i hi)
theorem app10_triK {σ : St} {X8 X9 X10 : AV} {A B C : List Int} {q b : Nat} {x : Int} {K : AV → St → Prop} (h : Tri σ X8 X9 X10 A B C q) (hq : q ≤ σ.n) (hm : C.length + 1 ≤ 1000) (hb : b ≤ 1000) (k : ∀ X τ, Tri τ X8 X9 X A B (C ++ [x]) q → Kp σ X10 τ X → (∀ i, i < q → τ.ob i = σ.ob i) → K X τ) : appC 1 b 3 X10 (.list 1 [.int .i64 x]) σ K := by
 have hl : (ints C).length = C.length := ints_length C
 refine app_slr (b := b) h.r10 (by omega) (Nat.le_trans (Nat.mul_le_mul (hl ▸ hm) hb) (by omega)) fun X τ hR hK => ?_
 exact k X τ (h.app10 hq hR hK) hK fun i hi => hK.2.1 i (by omega) (h.o10 i hi)
theorem Dj.oth {X : AV} {id g es o n : Nat} (h : Dj (.sl id g es o n) X) : Oth X id := (h id).resolve_left fun h => h.ne rfl
structure Hst (n : Nat) (S I O : List Int) : Prop where
 ls : S.length = n + 1
 li : I.length = n
 lo : O.length = n
 s : ∀ i, i ≤ n → 0 ≤ S.getD i 0 ∧ S.getD i 0 ≤ 39 + 9 * (i : Int)
 i : ∀ i, i < n → 0 ≤ I.getD i 0 ∧ I.getD i 0 ≤ 9
 o : ∀ i, i < n → 0 ≤ O.getD i 0 ∧ O.getD i 0 ≤ 12
 bal : ∀ i, i < n → S.getD (i + 1) 0 = S.getD i 0 + I.getD i 0 - O.getD i 0
theorem getD_snl {L : List Int} {x : Int} {i : Nat} (h : i < L.length) : (L ++ [x]).getD i 0 = L.getD i 0 := by
 rw [List.getD_eq_getElem?_getD, List.getD_eq_getElem?_getD, List.getElem?_append_left h]
theorem getD_snr {L : List Int} {x : Int} {i : Nat} (h : i = L.length) : (L ++ [x]).getD i 0 = x := by
 subst h; simp [List.getD_eq_getElem?_getD]
theorem get_getD {L : List Int} {i : Nat} (h : i < L.length) : L[i]? = some (L.getD i 0) := by
 rw [List.getD_eq_getElem?_getD, List.getElem?_eq_getElem h]; rfl
theorem Hst.one {x : Int} (h : 0 ≤ x) (h2 : x ≤ 39) : Hst 0 [x] [] [] :=
 ⟨rfl, rfl, rfl, fun i hi => by (obtain rfl : i = 0 := by omega); simp; omega, fun i hi => by omega, fun i hi => by omega, fun i hi => by omega⟩
theorem Hst.snoc {n : Nat} {S I O : List Int} (h : Hst n S I O) {x y a : Int} (ha : a = S.getD n 0) (hx : 0 ≤ x ∧ x ≤ 9) (hy : 0 ≤ y ∧ y ≤ 12) (hd : y ≤ a + x) : Hst (n + 1) (S ++ [a + x - y]) (I ++ [x]) (O ++ [y]) := by
 subst ha
 have h1 := h.ls
 have h2 := h.li
 have h3 := h.lo
 refine ⟨by simp [h1], by simp [h2], by simp [h3], fun i hi => ?_, fun i hi => ?_, fun i hi => ?_, fun i hi => ?_⟩
 ·rcases Nat.lt_or_ge i (n + 1) with hh | hh
  ·rw [getD_snl (by omega)]; exact h.s i (by omega)
  ·rw [getD_snr (by omega)]; have := h.s n (by omega); omega
 ·rcases Nat.lt_or_ge i n with hh | hh
  ·rw [getD_snl (by omega)]; exact h.i i hh
  ·rw [getD_snr (by omega)]; exact hx
 ·rcases Nat.lt_or_ge i n with hh | hh
  ·rw [getD_snl (by omega)]; exact h.o i hh
  ·rw [getD_snr (by omega)]; exact hy
 ·rcases Nat.lt_or_ge i n with hh | hh
  ·rw [getD_snl (by omega), getD_snl (by omega), getD_snl (by omega), getD_snl (by omega)]; exact h.bal i hh
  ·obtain rfl : i = n := by omega
   rw [getD_snr (by omega), getD_snl (by omega), getD_snr (by omega), getD_snr (by omega)]
theorem SlR.at {es : Nat} {ty : TypeId} {σ : St} {L : List AV} {id g n : Nat} (h : SlR es ty σ L (.sl id g es 0 n)) : id < σ.n ∧ n = L.length ∧ σ.ob id = some ⟨g, es, ty, false, true, L⟩ := by
 rcases h with ⟨h, _⟩ | ⟨id, g, h, h2, h3⟩
 ·cases h
 ·cases h; exact ⟨h2, rfl, h3⟩
theorem hc_flow_History (σ : St) (id g : Nat) (t : List Int) (at' : Nat) (hl : t.length ≤ 9223372036854775807) (hid : id < σ.n) (hob : σ.ob id = some ⟨g, 2, ty_Deck, false, true, [deckV t at']⟩) :
  HC prog n_flow_History [.ptr id g 2 0 0] σ (DeckR σ id g t fun r => ∃ n S I O, r = .tuple [.list 1 (ints S), .list 1 (ints I), .list 1 (ints O)] ∧ Hst n S I O ∧ 1 ≤ n ∧ n ≤ 5) := by
 refine HC.deck hid ?_
 obtain ⟨ob0, n0, c0⟩ := σ
 simp only at hob hid
 refine HC_of_body b_flow_History (by simp) ?_
 simp only [c_flow_History, go_sem, jA, jB, jC, jD, jE, jF, jG, jH, jI, jJ, ↓reduceIte, reduceCtorEq, jP]
 have h0 : ¬ id = n0 := by omega
 have h1 : ¬ id = n0 + 1 := by omega
 have h2 : ¬ n0 = id := by omega
 refine call_hc (ok_mk_Deck_Next _ id g ty_Deck true t at' 40 (by try simp (disch := omega) only [go_sem, jA, jB, jC, jD, jE, jF, jG, jH, jI, jJ, ↓reduceIte, reduceCtorEq, jO, jM, jN, jK, jL]; exact hob) (by omega) hl) ?_
 have hx1 := deckR_bd t at' 40
 generalize deckR t at' 40 = dr at *
 obtain ⟨x1, at1⟩ := dr
 simp only at hx1
 try simp (disch := omega) only [go_sem, jA, jB, jC, jD, jE, jF, jG, jH, jI, jJ, ↓reduceIte, reduceCtorEq, jO, jM, jN, jK, jL, h0, h1]
 refine call_hc (ok_mk_Deck_Next _ id g ty_Deck true t at1 5 (by try simp (disch := omega) only [go_sem, jA, jB, jC, jD, jE, jF, jG, jH, jI, jJ, ↓reduceIte, reduceCtorEq, jO, jM, jN, jK, jL, h0, h1]) (by omega) hl) ?_
 have hx2 := deckR_bd t at1 5
 generalize deckR t at1 5 = dr at *
 obtain ⟨x2, at2⟩ := dr
 simp only at hx2
 try simp (disch := omega) only [go_sem, jA, jB, jC, jD, jE, jF, jG, jH, jI, jJ, ↓reduceIte, reduceCtorEq, jO, jM, jN, jK, jL, h0, h1]
 obtain ⟨K, hK⟩ : ∃ K : Nat, (K : Int) = x2 ∧ K ≤ 4 := ⟨x2.toNat, by omega, by omega⟩
 obtain ⟨rfl, hK⟩ := hK
 have hx : 0 ≤ x1 ∧ x1 ≤ 39 := by omega
 refine awp_upG [5, 6, 7, 8, 9, 10, 11, 17, 18, 19, 20, 21, 22, 23, 24, 25, 26, 27, 28, 29, 30, 31, 32, 33, 34, 35, 36, 37, 38, 39, 40, 41, 42, 43, 44, 45, 46, 47, 48, 49, 50, 51] (by kernel_rfl) (K + 1) (fun k e σ => e 8 = .int .i64 ((K : Int) - k) ∧ (∃ a, σ.ob id = some ⟨g, 2, ty_Deck, false, true, [deckV t a]⟩) ∧ (∀ i, i < n0 → i ≠ id → σ.ob i = ob0 i) ∧ ∃ S I O, Hst k S I O ∧ Tri σ (e 5) (e 6) (e 7) S I O n0) ?_ ?_
 ·refine ⟨(by first | rfl | (simp (disch := omega) only [go_sem, jA, jB, jC, jD, jE, jF, jG, jH, jI, jJ, ↓reduceIte, reduceCtorEq, jP, jO, jM, jN]; try rfl)), ⟨at2, by try simp (disch := omega) only [go_sem, jA, jB, jC, jD, jE, jF, jG, jH, jI, jJ, ↓reduceIte, reduceCtorEq, jO, jM, jN, jK, jL, h0]⟩, fun i hi hne => ?_, [x1], [], [], Hst.one hx.1 hx.2, ?_⟩
  ·have : ¬ i = n0 := by omega
   try simp (disch := omega) only [go_sem, jA, jB, jC, jD, jE, jF, jG, jH, jI, jJ, ↓reduceIte, reduceCtorEq, jO, jM, jN, jK, jL, hne, this]
  ·try simp (disch := omega) only [go_sem, jA, jB, jC, jD, jE, jF, jG, jH, jI, jJ, ↓reduceIte, reduceCtorEq, jO, jM, jN, jK, jL]
   exact ⟨.inr ⟨n0, c0, rfl, by simp only; omega, by simp [upd, ints, h2]⟩, .nil, .nil, fun i hi => Oth.sl (by omega), fun i _ => Oth.nil i, fun i _ => Oth.nil i, (Dj.nil _).symm, (Dj.nil _).symm, Dj.nil _⟩
 rintro k fe ob m c hk hm ⟨h8, ⟨at3, hd⟩, hfr, S, I, O, hH, hT⟩
 simp (maxSteps := 1000000) only [go_sem, jA, jB, jC, jD, jE, jF, jG, jH, jI, jJ, ↓reduceIte, reduceCtorEq, jP] at h8 hd hfr hT hm
 obtain ⟨X5, h5⟩ : ∃ X, fe 5 = X := ⟨_, rfl⟩
 obtain ⟨X6, h6⟩ : ∃ X, fe 6 = X := ⟨_, rfl⟩
 obtain ⟨X7, h7⟩ : ∃ X, fe 7 = X := ⟨_, rfl⟩
 rw [h5, h6, h7] at hT
 try simp (disch := omega) only [go_sem, jA, jB, jC, jD, jE, jF, jG, jH, jI, jJ, ↓reduceIte, reduceCtorEq, jO, jM, jN, jK, jL, h8]
 refine cond_d (fun hge => ?_) (fun hlt => ?_)
 ·have hkl : k < K + 1 := by omega
  try simp (disch := omega) only [go_sem, jA, jB, jC, jD, jE, jF, jG, jH, jI, jJ, ↓reduceIte, reduceCtorEq, jO, jM, jN, jK, jL]
  refine call_hc (ok_mk_Deck_Next _ id g ty_Deck true t at3 10 hd (by omega) hl) ?_
  have hx4 := deckR_bd t at3 10
  generalize deckR t at3 10 = dr at *
  obtain ⟨x, at4⟩ := dr
  simp only at hx4
  have hq1 := hT.o8 id hid
  have r8 := hT.r8
  rcases r8 with ⟨-, hnil⟩ | ⟨id8, g8, rfl, hid8, hidob⟩
  ·have := hH.ls; have h9 := ints_length S; rw [hnil] at h9; simp at h9; omega
  have e1 : ¬ id8 = id := hq1.ne
  have hS := hH.ls
  have hlen : (ints S).length = k + 1 := by rw [ints_length, hS]
  rw [hlen] at h5 hT
  simp only at hidob
  try simp (disch := omega) only [go_sem, jA, jB, jC, jD, jE, jF, jG, jH, jI, jJ, ↓reduceIte, reduceCtorEq, jO, jM, jN, jK, jL, h5, h0, h1]
  rw [show ((k + 1 : Nat) : Int) - 1 = (k : Int) by omega]
  have e2 : S[k]? = some (S.getD k 0) := get_getD (by omega)
  have hs := hH.s k (by omega)
  try simp (disch := omega) only [go_sem, jA, jB, jC, jD, jE, jF, jG, jH, jI, jJ, ↓reduceIte, reduceCtorEq, jO, jM, jN, jK, jL, e1, hidob, ints_get, e2, Option.map_some]
  refine ⟨by omega, by omega, ?_⟩
  refine call_hc (ok_mk_Deck_Next _ id g ty_Deck true t at4 _ (by try simp (disch := omega) only [go_sem, jA, jB, jC, jD, jE, jF, jG, jH, jI, jJ, ↓reduceIte, reduceCtorEq, jO, jM, jN, jK, jL]) (by omega) hl) ?_
  have hx5 := deckR_bd t at4 (min (S.getD k 0 + x) 12 + 1)
  generalize deckR t at4 (min (S.getD k 0 + x) 12 + 1) = dr at *
  obtain ⟨y, at5⟩ := dr
  simp only at hx5
  have hy : 0 ≤ y ∧ y ≤ 12 ∧ y ≤ S.getD k 0 + x := by omega
  have hH2 := hH.snoc (x := x) (y := y) rfl (by omega) (by omega) hy.2.2
  have hI := hH.li
  have hO := hH.lo
  try simp (disch := omega) only [go_sem, jA, jB, jC, jD, jE, jF, jG, jH, jI, jJ, ↓reduceIte, reduceCtorEq, jO, jM, jN, jK, jL, h6]
  refine app9_triK (q := n0) (A := S) (B := I) (C := O) (X8 := .sl id8 g8 1 0 (k + 1)) (X10 := X7) (hT.mv (Nat.le_refl _) fun i hi _ => ?_) (by simp only; omega) (by omega) (by omega) fun Y6 τ6 hT6 hK6 hf6 => ?_
  ·simp only; rw [upd_ne _ _ _ _ (by omega), upd_ne _ _ _ _ (by omega)]
  have hn6 := hK6.1
  simp only at hn6
  try simp (disch := omega) only [go_sem, jA, jB, jC, jD, jE, jF, jG, jH, jI, jJ, ↓reduceIte, reduceCtorEq, jO, jM, jN, jK, jL, h7]
  refine app10_triK (b := 8) hT6 (by omega) (by omega) (by omega) fun Y7 τ7 hT7 hK7 hf7 => ?_
  have hn7 := hK7.1
  obtain ⟨q1, q2, q3⟩ := hT7.r8.at
  try simp (disch := omega) only [go_sem, jA, jB, jC, jD, jE, jF, jG, jH, jI, jJ, ↓reduceIte, reduceCtorEq, jO, jM, jN, jK, jL, h5, q3, hlen]
  refine ⟨by rw [mxL]; omega, by omega, ?_⟩
  have hT5 : Tri (τ7.renew id8 ⟨g8, 1, 3, false, true, ints S⟩ (ints S ++ [.int .i64 (S.getD k 0 + x - y)])) (.sl id8 τ7.c 1 0 (k + 1 + 1)) Y6 Y7 (S ++ [S.getD k 0 + x - y]) (I ++ [x]) (O ++ [y]) n0 :=
   hT7.ren (Nat.le_refl _) hT7.id_le q1 (by omega) (by simp [St.renew, upd]) fun i _ hne => by simp only [St.renew]; rw [upd_ne _ _ _ _ hne]
  have hn5 : τ7.n ≤ (τ7.renew id8 ⟨g8, 1, 3, false, true, ints S⟩ (ints S ++ [.int .i64 (S.getD k 0 + x - y)])).n := Nat.le_refl _
  have hf5 : ∀ i, i < n0 → (τ7.renew id8 ⟨g8, 1, 3, false, true, ints S⟩ (ints S ++ [.int .i64 (S.getD k 0 + x - y)])).ob i = τ7.ob i := fun i hi => by
   have := hT7.id_le
   simp only [St.renew]; rw [upd_ne _ _ _ _ (by omega)]
  generalize τ7.renew id8 ⟨g8, 1, 3, false, true, ints S⟩ (ints S ++ [.int .i64 (S.getD k 0 + x - y)]) = τ5 at *
  have hF : ∀ i, i < n0 → τ5.ob i = (if i = id then some ⟨g, 2, ty_Deck, false, true, [deckV t at5]⟩ else ob i) := fun i hi => by
   rw [hf5 i hi, hf7 i hi, hf6 i hi]
   simp only [upd]
   split <;> rfl
  try simp (disch := omega) only [go_sem, jA, jB, jC, jD, jE, jF, jG, jH, jI, jJ, ↓reduceIte, reduceCtorEq, jO, jM, jN, jK, jL, h8]
  refine up_nextG τ5.n hkl (by omega) ⟨by try simp (disch := omega) only [go_sem, jA, jB, jC, jD, jE, jF, jG, jH, jI, jJ, ↓reduceIte, reduceCtorEq, jO, jM, jN, jK, jL]; congr 1; omega, ⟨at5, ?_⟩, fun i hi hne => ?_, _, _, _, hH2, ?_⟩
  ·simp only [St.trunc]; rw [if_pos (by omega), hF id hid, if_pos rfl]
  ·simp only [St.trunc]; rw [if_pos (by omega), hF i hi, if_neg hne]; exact hfr i hi hne
  ·try simp (disch := omega) only [go_sem, jA, jB, jC, jD, jE, jF, jG, jH, jI, jJ, ↓reduceIte, reduceCtorEq, jO, jM, jN, jK, jL]
   exact hT5.mv (Nat.le_refl _) fun i _ hi => by simp [St.trunc, hi]
 ·try simp (disch := omega) only [go_sem, jA, jB, jC, jD, jE, jF, jG, jH, jI, jJ, ↓reduceIte, reduceCtorEq, jO, jM, jN, jK, jL, h5, h6, h7]
  refine ⟨_, at3, Pub.tu (.cons (hT.r8.pub (fun i hi hno => ?_) (ints_pur _) (ints_ok _)) (.cons (hT.r9.pub (fun i hi hno => ?_) (ints_pur _) (ints_ok _)) (.cons (hT.r10.pub (fun i hi hno => ?_) (ints_pur _) (ints_ok _)) .nil))), ⟨k, S, I, O, rfl, hH, by omega, by omega⟩, hd, hfr⟩
  ·simp only; rw [if_neg fun h => hno (hT.o8 i h)]
  ·simp only; rw [if_neg fun h => hno (hT.o9 i h)]
  ·simp only; rw [if_neg fun h => hno (hT.o10 i h)]
def arB (x : Int) (b : Bd) : Prop := 0 ≤ b.lo ∧ b.lo ≤ x ∧ x ≤ b.hi ∧ b.hi ≤ x + 30
structure ArL (L : List Int) (B : List Bd) : Prop where
 ln : B.length = L.length
 b : ∀ i, i < L.length → arB (L.getD i 0) (gB B i)
theorem gB_snl {L : List Bd} {x : Bd} {i : Nat} (h : i < L.length) : gB (L ++ [x]) i = gB L i := by
 simp only [gB, List.getD_eq_getElem?_getD, List.getElem?_append_left h]
theorem gB_snr {L : List Bd} {x : Bd} {i : Nat} (h : i = L.length) : gB (L ++ [x]) i = x := by
 subst h; simp [gB, List.getD_eq_getElem?_getD]
theorem take_snoc {L : List Int} {k : Nat} (h : k < L.length) : L.take (k + 1) = L.take k ++ [L.getD k 0] := by
 rw [List.take_add_one, get_getD h]; rfl
theorem ArL.nil : ArL [] [] := ⟨rfl, fun i hi => by simp at hi⟩
theorem ArL.snoc {L : List Int} {B : List Bd} (h : ArL L B) {x : Int} {b : Bd} (hb : arB x b) : ArL (L ++ [x]) (B ++ [b]) := by
 have h1 := h.ln
 refine ⟨by simp [h1], fun i hi => ?_⟩
 rcases Nat.lt_or_ge i L.length with hh | hh
 ·rw [getD_snl hh, gB_snl (by omega)]; exact h.b i hh
 ·simp only [List.length_append, List.length_cons, List.length_nil] at hi
  rw [getD_snr (by omega), gB_snr (by omega)]; exact hb
theorem hc_flow_Bounds (σ : St) (id g : Nat) (t : List Int) (at' : Nat) (x : Int) (hl : t.length ≤ 9223372036854775807) (hid : id < σ.n) (hob : σ.ob id = some ⟨g, 2, ty_Deck, false, true, [deckV t at']⟩) (hx0 : 0 ≤ x) (hx1 : x ≤ 1000) :
  HC prog n_flow_Bounds [.ptr id g 2 0 0, .int .i64 x] σ (DeckR σ id g t fun r => ∃ b, r = bdv b ∧ arB x b) := by
 refine HC.deck hid ?_
 obtain ⟨ob0, n0, c0⟩ := σ
 simp only at hob hid
 refine HC_of_body b_flow_Bounds (by simp) ?_
 simp only [c_flow_Bounds, go_sem, jA, jB, jC, jD, jE, jF, jG, jH, jI, jJ, ↓reduceIte, reduceCtorEq, jP]
 have h0 : ¬ id = n0 := by omega
 have h2 : ¬ n0 = id := by omega
 have fin : ∀ (ob' : Nat → Option AObj) (c' : Nat) (b : Bd) (at2 : Nat), ob' id = some ⟨g, 2, ty_Deck, false, true, [deckV t at2]⟩ → arB x b → (∀ i, i < n0 → i ≠ id → ob' i = ob0 i) → Deck0 ⟨ob0, n0, c0⟩ id g t (fun r => ∃ b, r = bdv b ∧ arB x b) (.agg [.int .i64 b.lo, .int .i64 b.hi]) ⟨ob', n0 + 1, c'⟩ :=
  fun ob' c' b at2 h1 h2 h3 => ⟨_, at2, .pure rfl, ⟨b, rfl, h2⟩, h1, h3⟩
 refine call_hc (ok_mk_Deck_Next _ id g ty_Deck true t at' 4 (by try simp (disch := omega) only [go_sem, jA, jB, jC, jD, jE, jF, jG, jH, jI, jJ, ↓reduceIte, reduceCtorEq, jO, jM, jN, jK, jL, h0]; exact hob) (by omega) hl) ?_
 have hy1 := deckR_bd t at' 4
 generalize deckR t at' 4 = dr at *
 obtain ⟨x1, at1⟩ := dr
 try simp (disch := omega) only [go_sem, jA, jB, jC, jD, jE, jF, jG, jH, jI, jJ, ↓reduceIte, reduceCtorEq, jO, jM, jN, jK, jL, h0, h2]
 refine cond_d (fun g1 => ?_) (fun g1 => ?_)
 ·try simp (disch := omega) only [go_sem, jA, jB, jC, jD, jE, jF, jG, jH, jI, jJ, ↓reduceIte, reduceCtorEq, jO, jM, jN, jK, jL, h0, h2]
  exact fin _ _ ⟨x, x⟩ at1 (by try simp (disch := omega) only [go_sem, jA, jB, jC, jD, jE, jF, jG, jH, jI, jJ, ↓reduceIte, reduceCtorEq, jO, jM, jN, jK, jL, h0]) (by simp only [arB]; omega) (fun i hi hi2 => by
   have j0 : ¬ i = n0 := by omega
   try simp (disch := omega) only [go_sem, jA, jB, jC, jD, jE, jF, jG, jH, jI, jJ, ↓reduceIte, reduceCtorEq, jO, jM, jN, jK, jL, j0, hi2])
 try simp (disch := omega) only [go_sem, jA, jB, jC, jD, jE, jF, jG, jH, jI, jJ, ↓reduceIte, reduceCtorEq, jO, jM, jN, jK, jL, h0, h2]
 refine cond_d (fun g2 => ?_) (fun g2 => ?_)
 ·try simp (disch := omega) only [go_sem, jA, jB, jC, jD, jE, jF, jG, jH, jI, jJ, ↓reduceIte, reduceCtorEq, jO, jM, jN, jK, jL, h0, h2]
  refine call_hc (ok_mk_Deck_Next _ id g ty_Deck true t at1 30 (by try simp (disch := omega) only [go_sem, jA, jB, jC, jD, jE, jF, jG, jH, jI, jJ, ↓reduceIte, reduceCtorEq, jO, jM, jN, jK, jL, h0]) (by omega) hl) ?_
  have hy2 := deckR_bd t at1 30
  generalize deckR t at1 30 = dr at *
  obtain ⟨x2, at2⟩ := dr
  simp only at hy2
  try simp (disch := omega) only [go_sem, jA, jB, jC, jD, jE, jF, jG, jH, jI, jJ, ↓reduceIte, reduceCtorEq, jO, jM, jN, jK, jL, h0, h2]
  exact fin _ _ ⟨0, x + x2⟩ at2 (by try simp (disch := omega) only [go_sem, jA, jB, jC, jD, jE, jF, jG, jH, jI, jJ, ↓reduceIte, reduceCtorEq, jO, jM, jN, jK, jL, h0]) (by simp only [arB]; omega) (fun i hi hi2 => by
   have j0 : ¬ i = n0 := by omega
   try simp (disch := omega) only [go_sem, jA, jB, jC, jD, jE, jF, jG, jH, jI, jJ, ↓reduceIte, reduceCtorEq, jO, jM, jN, jK, jL, j0, hi2])
 try simp (disch := omega) only [go_sem, jA, jB, jC, jD, jE, jF, jG, jH, jI, jJ, ↓reduceIte, reduceCtorEq, jO, jM, jN, jK, jL, h0, h2]
 refine call_hc (ok_mk_Deck_Next _ id g ty_Deck true t at1 _ (by try simp (disch := omega) only [go_sem, jA, jB, jC, jD, jE, jF, jG, jH, jI, jJ, ↓reduceIte, reduceCtorEq, jO, jM, jN, jK, jL, h0]) (by omega) hl) ?_
 have hy2 := deckR_bd t at1 (min x 6 + 1)
 generalize deckR t at1 (min x 6 + 1) = dr at *
 obtain ⟨x2, at2⟩ := dr
 simp only at hy2
 try simp (disch := omega) only [go_sem, jA, jB, jC, jD, jE, jF, jG, jH, jI, jJ, ↓reduceIte, reduceCtorEq, jO, jM, jN, jK, jL, h0, h2]
 refine call_hc (ok_mk_Deck_Next _ id g ty_Deck true t at2 6 (by try simp (disch := omega) only [go_sem, jA, jB, jC, jD, jE, jF, jG, jH, jI, jJ, ↓reduceIte, reduceCtorEq, jO, jM, jN, jK, jL, h0]) (by omega) hl) ?_
 have hy3 := deckR_bd t at2 6
 generalize deckR t at2 6 = dr at *
 obtain ⟨x3, at3⟩ := dr
 simp only at hy3
 try simp (disch := omega) only [go_sem, jA, jB, jC, jD, jE, jF, jG, jH, jI, jJ, ↓reduceIte, reduceCtorEq, jO, jM, jN, jK, jL, h0, h2]
 exact fin _ _ ⟨x - x2, x + x3⟩ at3 (by try simp (disch := omega) only [go_sem, jA, jB, jC, jD, jE, jF, jG, jH, jI, jJ, ↓reduceIte, reduceCtorEq, jO, jM, jN, jK, jL, h0]) (by simp only [arB]; omega) (fun i hi hi2 => by
  have j0 : ¬ i = n0 := by omega
  try simp (disch := omega) only [go_sem, jA, jB, jC, jD, jE, jF, jG, jH, jI, jJ, ↓reduceIte, reduceCtorEq, jO, jM, jN, jK, jL, j0, hi2])
def DrwL (σ : St) (id g : Nat) (t : List Int) (L : List Int) (r : AV) (τ : St) : Prop :=
 ∃ B, ArL L B ∧ SlR 2 35 τ (bds B) r ∧ (∀ i, i < σ.n → Oth r i) ∧ σ.n ≤ τ.n ∧ (∃ a, τ.ob id = some ⟨g, 2, ty_Deck, false, true, [deckV t a]⟩) ∧ ∀ i, i < σ.n → i ≠ id → τ.ob i = σ.ob i
theorem hc_flow_list (σ : St) (id g : Nat) (t : List Int) (at' : Nat) (L : List Int) (hl : t.length ≤ 9223372036854775807) (hid : id < σ.n) (hob : σ.ob id = some ⟨g, 2, ty_Deck, false, true, [deckV t at']⟩) (hL : L.length ≤ 100) (hx : ∀ i, i < L.length → 0 ≤ L.getD i 0 ∧ L.getD i 0 ≤ 1000) :
  HC prog n_flow_list [.ptr id g 2 0 0, .list 1 (ints L)] σ (DrwL σ id g t L) := by
 obtain ⟨ob0, n0, c0⟩ := σ
 simp only at hob hid
 refine HC_of_body b_flow_list (by simp) ?_
 simp only [c_flow_list, go_sem, jA, jB, jC, jD, jE, jF, jG, jH, jI, jJ, ↓reduceIte, reduceCtorEq, jP, ints_length]
 refine awp_upG [5, 7, 10, 11, 12, 13, 14, 15, 16, 17, 18, 19, 20] (by kernel_rfl) L.length (fun k e σ => e 10 = .int .i64 k ∧ (∃ a, σ.ob id = some ⟨g, 2, ty_Deck, false, true, [deckV t a]⟩) ∧ (∀ i, i < n0 → i ≠ id → σ.ob i = ob0 i) ∧ ∃ B, ArL (L.take k) B ∧ SlR 2 35 σ (bds B) (e 5) ∧ ∀ i, i < n0 → Oth (e 5) i) ?_ ?_
 ·exact ⟨(by first | rfl | (simp (disch := omega) only [go_sem, jA, jB, jC, jD, jE, jF, jG, jH, jI, jJ, ↓reduceIte, reduceCtorEq, jP, jO, jM, jN]; try rfl)), ⟨at', hob⟩, fun i hi hne => rfl, [], ArL.nil, by try simp (disch := omega) only [go_sem, jA, jB, jC, jD, jE, jF, jG, jH, jI, jJ, ↓reduceIte, reduceCtorEq, jO, jM, jN, jK, jL]; exact .nil, fun i _ => by try simp (disch := omega) only [go_sem, jA, jB, jC, jD, jE, jF, jG, jH, jI, jJ, ↓reduceIte, reduceCtorEq, jO, jM, jN, jK, jL]; exact Oth.nil i⟩
 rintro k fe ob m c hk hm ⟨h10, ⟨at3, hd⟩, hfr, B, hB, hR, ho⟩
 simp (maxSteps := 1000000) only [go_sem, jA, jB, jC, jD, jE, jF, jG, jH, jI, jJ, ↓reduceIte, reduceCtorEq, jP] at h10 hd hfr hR ho hm
 obtain ⟨X5, h5⟩ : ∃ X, fe 5 = X := ⟨_, rfl⟩
 rw [h5] at hR ho
 try simp (disch := omega) only [go_sem, jA, jB, jC, jD, jE, jF, jG, jH, jI, jJ, ↓reduceIte, reduceCtorEq, jO, jM, jN, jK, jL, h10]
 refine cond_d (fun hlt => ?_) (fun hge => ?_)
 ·have hkl : k < L.length := by omega
  have e1 := get_getD hkl
  have hxk := hx k hkl
  have hts := take_snoc hkl
  generalize L.getD k 0 = x at *
  try simp (disch := omega) only [go_sem, jA, jB, jC, jD, jE, jF, jG, jH, jI, jJ, ↓reduceIte, reduceCtorEq, jO, jM, jN, jK, jL, h10, ints_length, ints_get, e1, Option.map_some]
  refine ⟨by omega, by omega, ?_⟩
  refine (hc_flow_Bounds _ id g t at3 x hl (by simp only; omega) hd hxk.1 hxk.2).mono ?_
  intro r τ hD
  obtain ⟨⟨b, rfl, hb⟩, hn, ⟨at4, hd4⟩, hf4⟩ := hD.use (by simp only; omega)
  obtain ⟨ob4, m4, c4⟩ := τ
  simp only at hn hd4 hf4
  subst hn
  try simp (disch := omega) only [go_sem, jA, jB, jC, jD, jE, jF, jG, jH, jI, jJ, ↓reduceIte, reduceCtorEq, jO, jM, jN, jK, jL, h5]
  have hBl : B.length = k := by rw [hB.ln]; simp; omega
  refine ⟨⟨rfl, rfl, rfl⟩, ?_⟩
  refine app_slr (b := 16) (hR.move (by exact Nat.le_refl _) fun i hi hno => hf4 i hi fun e => hno (e ▸ ho id hid)) (by rw [bds_length]; omega) (by rw [bds_length]; omega) fun Y τ5 hR5 hK5 => ?_
  have hn5 := hK5.1
  simp only at hn5
  try simp (disch := omega) only [go_sem, jA, jB, jC, jD, jE, jF, jG, jH, jI, jJ, ↓reduceIte, reduceCtorEq, jO, jM, jN, jK, jL, h10]
  refine up_nextG τ5.n hkl (by omega) ⟨(by first | rfl | (simp (disch := omega) only [go_sem, jA, jB, jC, jD, jE, jF, jG, jH, jI, jJ, ↓reduceIte, reduceCtorEq, jP, jO, jM, jN]; try rfl)), ⟨at4, ?_⟩, fun i hi hne => ?_, B ++ [b], ?_, ?_, fun i hi => ?_⟩
  ·simp only [St.trunc]; rw [if_pos (by omega), hK5.2.1 id (by simp only; omega) (ho id hid)]; exact hd4
  ·simp only [St.trunc]; rw [if_pos (by omega), hK5.2.1 i (by simp only; omega) (ho i hi)]
   exact (hf4 i (by omega) hne).trans (hfr i hi hne)
  ·rw [hts]; exact hB.snoc hb
  ·try simp (disch := omega) only [go_sem, jA, jB, jC, jD, jE, jF, jG, jH, jI, jJ, ↓reduceIte, reduceCtorEq, jO, jM, jN, jK, jL, bds_snoc]
   exact hR5.move (Nat.le_refl _) fun i hi _ => by simp [St.trunc, hi]
  ·try simp (disch := omega) only [go_sem, jA, jB, jC, jD, jE, jF, jG, jH, jI, jJ, ↓reduceIte, reduceCtorEq, jO, jM, jN, jK, jL]; exact hK5.2.2 i (by simp only; omega) (ho i hi)
 ·try simp (disch := omega) only [go_sem, jA, jB, jC, jD, jE, jF, jG, jH, jI, jJ, ↓reduceIte, reduceCtorEq, jO, jM, jN, jK, jL, h5]
  obtain rfl : L.length = k := by omega
  rw [List.take_length] at hB
  exact ⟨B, hB, hR, ho, hm, ⟨at3, hd⟩, hfr⟩
structure Drn (a : Ac) (n : Nat) (S I O : List Int) : Prop where
 h : Hst n S I O
 n1 : 1 ≤ n
 n5 : n ≤ 5
 f0 : 0 ≤ a.fr
 f1 : a.fr ≤ 19
 s : ArL S a.st
 i : ArL I a.ins
 o : ArL O a.outs
def AccR (σ : St) (id g : Nat) (t : List Int) (r : AV) (τ : St) : Prop :=
 ∃ a n S I O R1 R2 R3, r = .tuple [.agg [.int .i64 a.fr, R1, R2, R3], .list 1 (ints S), .list 1 (ints I), .list 1 (ints O)] ∧ Drn a n S I O ∧
  SlR 2 35 τ (bds a.st) R1 ∧ SlR 2 35 τ (bds a.ins) R2 ∧ SlR 2 35 τ (bds a.outs) R3 ∧ (∀ i, i < σ.n → Oth R1 i) ∧ (∀ i, i < σ.n → Oth R2 i) ∧ (∀ i, i < σ.n → Oth R3 i) ∧ Dj R1 R2 ∧ Dj R1 R3 ∧ Dj R2 R3 ∧
  σ.n ≤ τ.n ∧ (∃ a, τ.ob id = some ⟨g, 2, ty_Deck, false, true, [deckV t a]⟩) ∧ ∀ i, i < σ.n → i ≠ id → τ.ob i = σ.ob i
theorem hc_flow_Account (σ : St) (id g : Nat) (t : List Int) (at' : Nat) (hl : t.length ≤ 9223372036854775807) (hid : id < σ.n) (hob : σ.ob id = some ⟨g, 2, ty_Deck, false, true, [deckV t at']⟩) :
  HC prog n_flow_Account [.ptr id g 2 0 0] σ (AccR σ id g t) := by
 obtain ⟨ob0, n0, c0⟩ := σ
 simp only at hob hid
 refine HC_of_body b_flow_Account (by simp) ?_
 simp only [c_flow_Account, go_sem, jA, jB, jC, jD, jE, jF, jG, jH, jI, jJ, ↓reduceIte, reduceCtorEq, jP]
 have h0 : ¬ id = n0 := by omega
 have h1 : ¬ id = n0 + 1 := by omega
 have h2 : ¬ n0 = id := by omega
 refine (hc_flow_History _ id g t at' hl (by simp only; omega) (by try simp (disch := omega) only [go_sem, jA, jB, jC, jD, jE, jF, jG, jH, jI, jJ, ↓reduceIte, reduceCtorEq, jO, jM, jN, jK, jL, h0]; exact hob)).mono ?_
 intro r τ hD
 obtain ⟨⟨n, S, I, O, rfl, hH, hn1, hn5⟩, hn, ⟨at1, hd1⟩, hf1⟩ := hD.use (by simp only; omega)
 obtain ⟨ob1, m1, c1⟩ := τ
 simp only at hn hd1 hf1
 obtain rfl : n0 + 1 = m1 := hn.symm
 have hS := hH.ls
 have hI := hH.li
 have hO := hH.lo
 try simp (disch := omega) only [go_sem, jA, jB, jC, jD, jE, jF, jG, jH, jI, jJ, ↓reduceIte, reduceCtorEq, jO, jM, jN, jK, jL, h0, h1]
 refine call_hc (ok_mk_Deck_Next _ id g ty_Deck true t at1 20 hd1 (by omega) hl) ?_
 have hx2 := deckR_bd t at1 20
 generalize deckR t at1 20 = dr at *
 obtain ⟨fr, at2⟩ := dr
 simp only at hx2
 try simp (disch := omega) only [go_sem, jA, jB, jC, jD, jE, jF, jG, jH, jI, jJ, ↓reduceIte, reduceCtorEq, jO, jM, jN, jK, jL, h0, h1]
 refine (hc_flow_list _ id g t at2 S hl (by simp only; omega) (by try simp (disch := omega) only [go_sem, jA, jB, jC, jD, jE, jF, jG, jH, jI, jJ, ↓reduceIte, reduceCtorEq, jO, jM, jN, jK, jL]) (by omega) (fun i hi => by have := hH.s i (by omega); omega)).mono ?_
 rintro R1 ⟨ob3, m3, c3⟩ ⟨B1, hB1, r1, o1, hm3, ⟨at3, hd3⟩, hf3⟩
 simp only at o1 hm3 hd3 hf3
 try simp (disch := omega) only [go_sem, jA, jB, jC, jD, jE, jF, jG, jH, jI, jJ, ↓reduceIte, reduceCtorEq, jO, jM, jN, jK, jL]
 refine (hc_flow_list _ id g t at3 I hl (by simp only; omega) hd3 (by omega) (fun i hi => by have := hH.i i (by omega); omega)).mono ?_
 rintro R2 ⟨ob4, m4, c4⟩ ⟨B2, hB2, r2, o2, hm4, ⟨at4, hd4⟩, hf4⟩
 simp only at o2 hm4 hd4 hf4
 try simp (disch := omega) only [go_sem, jA, jB, jC, jD, jE, jF, jG, jH, jI, jJ, ↓reduceIte, reduceCtorEq, jO, jM, jN, jK, jL]
 refine (hc_flow_list _ id g t at4 O hl (by simp only; omega) hd4 (by omega) (fun i hi => by have := hH.o i (by omega); omega)).mono ?_
 rintro R3 ⟨ob5, m5, c5⟩ ⟨B3, hB3, r3, o3, hm5, ⟨at5, hd5⟩, hf5⟩
 simp only at o3 hm5 hd5 hf5
 try simp (disch := omega) only [go_sem, jA, jB, jC, jD, jE, jF, jG, jH, jI, jJ, ↓reduceIte, reduceCtorEq, jO, jM, jN, jK, jL]
 have v1 := hf1 n0 (by omega) h2
 have v3 := hf3 n0 (by omega) h2
 have v4 := hf4 n0 (by omega) h2
 have v5 := hf5 n0 (by omega) h2
 try simp (disch := omega) only [go_sem, jA, jB, jC, jD, jE, jF, jG, jH, jI, jJ, ↓reduceIte, reduceCtorEq, jO, jM, jN, jK, jL, h2] at v1 v3
 rw [v4, v3, v1] at v5
 try simp (disch := omega) only [go_sem, jA, jB, jC, jD, jE, jF, jG, jH, jI, jJ, ↓reduceIte, reduceCtorEq, jO, jM, jN, jK, jL, r1.flat, r2.flat, r3.flat, r1.cells, r2.cells, r3.cells, r1.one, r2.one, r3.one, v5]
 have k1 : ∀ {R : AV} {i : Nat}, (∀ j, j < n0 + 1 → Oth R j) → ¬ Oth R i → ¬ i = id ∧ ¬ i = n0 := fun ho hno => ⟨fun e => hno (e ▸ ho id (by omega)), fun e => hno (e ▸ ho n0 (by omega))⟩
 have k2 : ∀ {R : AV} {i : Nat}, (∀ j, j < m3 → Oth R j) → ¬ Oth R i → ¬ i = id ∧ ¬ i = n0 := fun ho hno => ⟨fun e => hno (e ▸ ho id (by omega)), fun e => hno (e ▸ ho n0 (by omega))⟩
 have k3 : ∀ {R : AV} {i : Nat}, (∀ j, j < m4 → Oth R j) → ¬ Oth R i → ¬ i = id ∧ ¬ i = n0 := fun ho hno => ⟨fun e => hno (e ▸ ho id (by omega)), fun e => hno (e ▸ ho n0 (by omega))⟩
 refine ⟨⟨fr, B1, B2, B3⟩, n, S, I, O, R1, R2, R3, rfl, ⟨hH, hn1, hn5, by simp only; omega, by simp only; omega, hB1, hB2, hB3⟩, r1.move (by simp only; omega) fun i hi hno => ?_, r2.move (by simp only; omega) fun i hi hno => ?_, r3.move (by exact Nat.le_refl _) fun i hi hno => ?_, fun i hi => o1 i (by simp only at hi; omega), fun i hi => o2 i (by simp only at hi; omega), fun i hi => o3 i (by simp only at hi; omega), fun i => ?_, fun i => ?_, fun i => ?_, by simp only; omega, ⟨at5, ?_⟩, fun i hi hne => ?_⟩
 ·obtain ⟨q1, q2⟩ := k1 o1 hno
  simp only at hi ⊢
  rw [upd_ne _ _ _ _ q2, hf5 i (by omega) q1, hf4 i (by omega) q1]
 ·obtain ⟨q1, q2⟩ := k2 o2 hno
  simp only at hi ⊢
  rw [upd_ne _ _ _ _ q2, hf5 i (by omega) q1]
 ·obtain ⟨q1, q2⟩ := k3 o3 hno
  simp only at hi ⊢
  rw [upd_ne _ _ _ _ q2]
 ·rcases Nat.lt_or_ge i m3 with h | h
  ·exact .inr (o2 i h)
  ·exact .inl (r1.oth h)
 ·rcases Nat.lt_or_ge i m4 with h | h
  ·exact .inr (o3 i h)
  ·exact .inl (r1.oth (by simp only; omega))
 ·rcases Nat.lt_or_ge i m4 with h | h
  ·exact .inr (o3 i h)
  ·exact .inl (r2.oth (by simp only; omega))
 ·simp only; rw [upd_ne _ _ _ _ h0]; exact hd5
 ·simp only at hi ⊢
  rw [upd_ne _ _ _ _ (by omega), hf5 i (by omega) hne, hf4 i (by omega) hne, hf3 i (by omega) hne, upd_ne _ _ _ _ hne, hf1 i (by omega) hne, upd_ne _ _ _ _ (by omega)]
theorem deck_flow_Account (σ : St) (id g : Nat) (t : List Int) (at' : Nat) (hl : t.length ≤ 9223372036854775807) (hid : id < σ.n) (hob : σ.ob id = some ⟨g, 2, ty_Deck, false, true, [deckV t at']⟩) :
  HC prog n_flow_Account [.ptr id g 2 0 0] σ (DeckR σ id g t fun r => ∃ a n S I O, r = .tuple [acv a, .list 1 (ints S), .list 1 (ints I), .list 1 (ints O)] ∧ Drn a n S I O) := by
 refine HC.deck hid ((hc_flow_Account σ id g t at' hl hid hob).mono ?_)
 rintro r τ ⟨a, n, S, I, O, R1, R2, R3, rfl, hD, r1, r2, r3, o1, o2, o3, -, -, -, hn, ⟨at2, hd⟩, hf⟩
 have pb : ∀ {R : AV} {B : List Bd}, SlR 2 35 τ (bds B) R → (∀ i, i < σ.n → Oth R i) → Pub ⟨fun i => if i < σ.n then none else τ.ob i, τ.n, τ.c⟩ R (.list 2 (bds B)) := fun hr ho =>
  hr.pub (fun i hi hno => by simp only; rw [if_neg fun h => hno (ho i h)]) (bds_pur _) (bds_ok _)
 exact ⟨.tuple [acv a, .list 1 (ints S), .list 1 (ints I), .list 1 (ints O)], at2, Pub.tu (.cons (Pub.ag (.cons (.pure rfl) (.cons (pb r1 o1) (.cons (pb r2 o2) (.cons (pb r3 o3) .nil))))) (.cons (.pure (by simp [ints_pur, go_sem])) (.cons (.pure (by simp [go_sem])) (.cons (.pure (by simp [go_sem])) .nil)))), ⟨a, n, S, I, O, rfl, hD⟩, hd, hf⟩
structure Lse (a : Ac) (n : Nat) : Prop where
 n1 : 1 ≤ n
 n5 : n ≤ 5
 ls : a.st.length = n + 1
 li : a.ins.length = n
 lo : a.outs.length = n
 f0 : 0 ≤ a.fr
 f1 : a.fr ≤ 19
 s : ∀ b ∈ a.st, 0 ≤ b.lo ∧ b.lo ≤ b.hi ∧ b.hi ≤ 1000
 i : ∀ b ∈ a.ins, 0 ≤ b.lo ∧ b.lo ≤ b.hi ∧ b.hi ≤ 1000
 o : ∀ b ∈ a.outs, 0 ≤ b.lo ∧ b.lo ≤ b.hi ∧ b.hi ≤ 1000
theorem ArL.fit {L : List Int} {B : List Bd} (h : ArL L B) (hx : ∀ i, i < L.length → L.getD i 0 ≤ 900) : ∀ b ∈ B, 0 ≤ b.lo ∧ b.lo ≤ b.hi ∧ b.hi ≤ 1000 := by
 intro b hb
 obtain ⟨i, hi, rfl⟩ := List.mem_iff_getElem.1 hb
 have h1 := h.b i (by have := h.ln; omega)
 have h2 := hx i (by have := h.ln; omega)
 have h3 : gB B i = B[i] := by simp [gB, List.getD_eq_getElem?_getD, hi]
 rw [h3] at h1
 simp only [arB] at h1
 omega
theorem Drn.lse {a : Ac} {n : Nat} {S I O : List Int} (h : Drn a n S I O) : Lse a n := by
 have h1 := h.h.ls
 have h2 := h.h.li
 have h3 := h.h.lo
 have := h.n5
 refine ⟨h.n1, h.n5, by rw [h.s.ln, h1], by rw [h.i.ln, h2], by rw [h.o.ln, h3], h.f0, h.f1, h.s.fit fun i hi => ?_, h.i.fit fun i hi => ?_, h.o.fit fun i hi => ?_⟩
 ·have := h.h.s i (by omega); omega
 ·have := h.h.i i (by omega); omega
 ·have := h.h.o i (by omega); omega
theorem Lse.ok {a : Ac} {n : Nat} (h : Lse a n) : AcOK a := by
 have h1 := h.n1
 have h2 := h.n5
 have h3 := h.f0
 have h4 := h.f1
 have h5 := h.li
 have f : ∀ {b : Bd}, (0 ≤ b.lo ∧ b.lo ≤ b.hi ∧ b.hi ≤ 1000) → fitB b := fun h => ⟨h.1, h.2.1, by simp only [mxV]; omega⟩
 exact ⟨by omega, by omega, by rw [h.lo, h.li], by rw [h.ls, h.li], h3, by omega, fun b hb => f (h.s b hb), fun b hb => f (h.i b hb), fun b hb => f (h.o b hb)⟩
def HiA (a : Ac) (n : Nat) (s x y : Nat → Int) : Prop := Hi (gB a.st) (gB a.ins) (gB a.outs) n s x y
theorem Drn.hi {a : Ac} {n : Nat} {S I O : List Int} (h : Drn a n S I O) : a.ins.length = n ∧ HiA a n (fun i => S.getD i 0) (fun i => I.getD i 0) (fun i => O.getD i 0) := by
 have h1 := h.h.ls
 have h2 := h.h.li
 have h3 := h.h.lo
 refine ⟨by rw [h.i.ln, h2], fun i hi => ?_, fun i hi => ?_, fun i hi => ?_, h.h.bal⟩
 ·have := h.s.b i (by omega); exact ⟨this.2.1, this.2.2.1⟩
 ·have := h.i.b i (by omega); exact ⟨this.2.1, this.2.2.1⟩
 ·have := h.o.b i (by omega); exact ⟨this.2.1, this.2.2.1⟩
end Go.Proofs.Try
