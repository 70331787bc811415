/- OWN WORK, put together by tools/asm.py, seat.py, mini.py. -/
import Derived.Test.YtkbpllahboofgaaLib
set_option linter.unusedSimpArgs false
set_option linter.unusedVariables false
set_option maxRecDepth 100000
set_option maxHeartbeats 1000000
namespace Go.Proofs.Try
open Go.Ab Go
open Int renaming reduceEq → jA, reduceLT → jB, reduceLE → jC, reduceToNat → jD
open Go.Ab renaming w_ite_ne → jM, w_ite_lt → jN, wrap_id → jO, w_app_nl → jP
open Nat renaming reduceLT → jE, reduceEqDiff → jF, reduceAdd → jG, reduceLeDiff → jH, reduceSub → jI, reduceMul → jJ, sub_zero → jK, sub_self → jL
def mkL (n : Nat) (f : Nat → Bd) : List Bd := (List.range n).map f
theorem mkL_length (n : Nat) (f : Nat → Bd) : (mkL n f).length = n := by simp [mkL]
theorem mkL_get {n i : Nat} (f : Nat → Bd) (h : i < n) : (mkL n f)[i]? = some (f i) := by simp [mkL, h]
theorem mkL_set {n i : Nat} (f g : Nat → Bd) (b : Bd) (hi : i < n) (hg : g i = b) (ho : ∀ j, j < n → j ≠ i → g j = f j) : (mkL n f).set i b = mkL n g := by
 apply List.ext_getElem?
 intro j
 rw [List.getElem?_set]
 by_cases e : i = j
 ·subst e
  rw [if_pos rfl, mkL_length, if_pos hi, mkL_get g hi, hg]
 ·rw [if_neg e]
  by_cases hj : j < n
  ·rw [mkL_get f hj, mkL_get g hj, ho j hj (Ne.symm e)]
  ·rw [List.getElem?_eq_none (by rw [mkL_length]; omega), List.getElem?_eq_none (by rw [mkL_length]; omega)]
theorem mkL_ext {n : Nat} {f g : Nat → Bd} (h : ∀ j, j < n → f j = g j) : mkL n f = mkL n g := by
 apply List.map_congr_left
 intro j hj
 exact h j (List.mem_range.1 hj)
theorem mkL_self (L : List Bd) : mkL L.length (fun i => L.getD i default) = L := by
 apply List.ext_getElem?
 intro j
 by_cases hj : j < L.length
 ·rw [mkL_get _ hj, List.getD_eq_getElem?_getD, List.getElem?_eq_getElem hj]; rfl
 ·rw [List.getElem?_eq_none (by rw [mkL_length]; omega), List.getElem?_eq_none (by omega)]
theorem mkL_mem {n : Nat} {f : Nat → Bd} {b : Bd} (h : b ∈ mkL n f) : ∃ i, i < n ∧ f i = b := by
 obtain ⟨i, hi, rfl⟩ := List.mem_map.1 h
 exact ⟨i, List.mem_range.1 hi, rfl⟩
def gB (L : List Bd) (i : Nat) : Bd := L.getD i default
theorem gB_get {L : List Bd} {i : Nat} (h : i < L.length) : L[i]? = some (gB L i) := by rw [gB, List.getD_eq_getElem?_getD, List.getElem?_eq_getElem h]; rfl
theorem gB_mk {n i : Nat} (f : Nat → Bd) (h : i < n) : gB (mkL n f) i = f i := by rw [gB, List.getD_eq_getElem?_getD, mkL_get f h]; rfl
theorem narB_some {b c d : Bd} (h : narB b c = some d) : d = meetB b c ∧ valB b ∧ valB c ∧ valB d := by
 unfold narB at h
 split at h
 ·rename_i h2
  obtain rfl := Option.some.inj h
  exact ⟨rfl, h2.1, h2.2.1, h2.2.2⟩
 ·cases h
theorem narB_none {b c : Bd} (h : narB b c = none) (hb : valB b) (hc : valB c) : ¬ valB (meetB b c) := by
 unfold narB at h
 split at h
 ·cases h
 ·rename_i h2
  intro h3
  exact h2 ⟨hb, hc, h3⟩
theorem narB_of {b c : Bd} (hb : valB b) (hc : valB c) (h : valB (meetB b c)) : narB b c = some (meetB b c) := by
 unfold narB
 rw [if_pos ⟨hb, hc, h⟩]
theorem fitB.val {b : Bd} (h : fitB b) : valB b := h.2.1
theorem meet_fit {b c : Bd} (hb : fitB b) (h : valB (meetB b c)) : fitB (meetB b c) := by
 simp only [fitB, valB, meetB] at *
 omega
def stpL (X Y : List Bd) (back : Bool) (L : List Bd) (i : Nat) : Option (List Bd) :=
 if back then (narB (gB L i) (bwB (gB L (i + 1)) (gB X i) (gB Y i))).map fun b => L.set i b
 else (narB (gB L (i + 1)) (fwB (gB L i) (gB X i) (gB Y i))).map fun b => L.set (i + 1) b
def stpF (B X Y : List Bd) (p : List Bd × List Bd) (i : Nat) : Option (List Bd × List Bd) :=
 match narB (gB p.1 i) (inF (gB B i) (gB B (i + 1)) (gB Y i)), narB (gB p.2 i) (outF (gB B i) (gB B (i + 1)) (gB X i)) with
 | some u, some v => some (p.1.set i u, p.2.set i v)
 | _, _ => none
def foldM {α : Type} (f : α → Nat → Option α) : α → List Int → Option α
 | a, [] => some a
 | a, i :: r => (f a i.toNat).bind fun b => foldM f b r
theorem foldM_snoc {α : Type} (f : α → Nat → Option α) (i : Int) : ∀ (pre : List Int) (a : α), foldM f a (pre ++ [i]) = (foldM f a pre).bind fun b => f b i.toNat
 | [], a => by simp only [List.nil_append, foldM, Option.bind_some]; cases f a i.toNat <;> rfl
 | j :: r, a => by
  simp only [List.cons_append, foldM]
  cases f a j.toNat with
  | none => rfl
  | some b => exact foldM_snoc f i r b
theorem foldM_none {α : Type} (f : α → Nat → Option α) {pre l : List Int} (h : pre <+: l) {a : α} (hn : foldM f a pre = none) : foldM f a l = none := by
 obtain ⟨r, rfl⟩ := h
 induction pre generalizing a with
 | nil => simp [foldM] at hn
 | cons j p ih =>
  simp only [List.cons_append, foldM] at hn ⊢
  cases hf : f a j.toNat with
  | none => rfl
  | some b => rw [hf] at hn; exact ih hn
section
variable {S X Y : List Bd} {n : Nat}
structure Lens (S X Y : List Bd) (n : Nat) : Prop where
 s : S.length = n + 1
 x : X.length = n
 y : Y.length = n
 fs : ∀ b ∈ S, fitB b
 fx : ∀ b ∈ X, fitB b
 fy : ∀ b ∈ Y, fitB b
theorem Lens.gs (h : Lens S X Y n) {i : Nat} (hi : i ≤ n) : fitB (gB S i) := h.fs _ (List.mem_of_getElem? (gB_get (by rw [h.s]; omega)))
theorem Lens.gx (h : Lens S X Y n) {i : Nat} (hi : i < n) : fitB (gB X i) := h.fx _ (List.mem_of_getElem? (gB_get (by rw [h.x]; omega)))
theorem Lens.gy (h : Lens S X Y n) {i : Nat} (hi : i < n) : fitB (gB Y i) := h.fy _ (List.mem_of_getElem? (gB_get (by rw [h.y]; omega)))
def cF (S X Y : List Bd) (i : Nat) : Bd := chF (gB S) (gB X) (gB Y) i
def cB (S X Y : List Bd) (n i : Nat) : Bd := chB (gB S) (gB X) (gB Y) n i
def cX (S X Y : List Bd) (n i : Nat) : Bd := chX (gB S) (gB X) (gB Y) n i
def cY (S X Y : List Bd) (n i : Nat) : Bd := chY (gB S) (gB X) (gB Y) n i
def VD (S X Y : List Bd) (n : Nat) : Prop := ∀ i, i ≤ n → valB (cF S X Y i)
theorem Lens.vd (h : Lens S X Y n) (hv : VD S X Y n) : Vd (gB S) (gB X) (gB Y) n := ⟨fun i hi => (h.gx hi).val, fun i hi => (h.gy hi).val, hv⟩
theorem cF_fit (h : Lens S X Y n) : ∀ {i : Nat}, i ≤ n → valB (cF S X Y i) → fitB (cF S X Y i)
 | 0, hi, _ => h.gs hi
 | _ + 1, hi, hv => meet_fit (h.gs hi) hv
theorem cB_fit (h : Lens S X Y n) (hv : VD S X Y n) {i : Nat} (hi : i ≤ n) : fitB (cB S X Y n i) := by
 have h1 := (h.vd hv).B hi
 by_cases e : i = n
 ·subst e; unfold cB; rw [chB_end]; exact cF_fit h (Nat.le_refl _) (hv _ (Nat.le_refl _))
 ·unfold cB; rw [chB_step (by omega)] at h1 ⊢; exact meet_fit (cF_fit h hi (hv i hi)) h1
def atF (S X Y : List Bd) (n k : Nat) : List Bd := mkL (n + 1) fun j => if j ≤ k then cF S X Y j else gB S j
def atB (S X Y : List Bd) (n k : Nat) : List Bd := mkL (n + 1) fun j => if n - k ≤ j then cB S X Y n j else cF S X Y j
def atX (S X Y : List Bd) (n k : Nat) : List Bd := mkL n fun j => if j < k then cX S X Y n j else gB X j
def atY (S X Y : List Bd) (n k : Nat) : List Bd := mkL n fun j => if j < k then cY S X Y n j else gB Y j
theorem atF_zero (h : Lens S X Y n) : atF S X Y n 0 = S := by
 refine Eq.trans (mkL_ext (g := fun i => S.getD i default) fun j _ => ?_) (by have := mkL_self S; rwa [h.s] at this)
 split
 ·rename_i e; obtain rfl : j = 0 := by omega
  rfl
 ·rfl
theorem atF_end : atF S X Y n n = mkL (n + 1) (cF S X Y) := mkL_ext fun j hj => by rw [if_pos (by omega)]
theorem atB_zero : atB S X Y n 0 = mkL (n + 1) (cF S X Y) := mkL_ext fun j hj => by
 split
 ·rename_i e; obtain rfl : j = n := by omega
  exact chB_end
 ·rfl
theorem atB_end : atB S X Y n n = mkL (n + 1) (cB S X Y n) := mkL_ext fun j hj => by rw [if_pos (by omega)]
theorem atX_zero (h : Lens S X Y n) : atX S X Y n 0 = X := by
 refine Eq.trans (mkL_ext (g := fun i => X.getD i default) fun j _ => ?_) (by have := mkL_self X; rwa [h.x] at this)
 rw [if_neg (by omega)]; rfl
theorem atY_zero (h : Lens S X Y n) : atY S X Y n 0 = Y := by
 refine Eq.trans (mkL_ext (g := fun i => Y.getD i default) fun j _ => ?_) (by have := mkL_self Y; rwa [h.y] at this)
 rw [if_neg (by omega)]; rfl
theorem atX_end : atX S X Y n n = mkL n (cX S X Y n) := mkL_ext fun j hj => by rw [if_pos (by omega)]
theorem atY_end : atY S X Y n n = mkL n (cY S X Y n) := mkL_ext fun j hj => by rw [if_pos (by omega)]
theorem atF_succ {k : Nat} (hk : k < n) : (atF S X Y n k).set (k + 1) (cF S X Y (k + 1)) = atF S X Y n (k + 1) :=
 mkL_set _ _ _ (by omega) (by rw [if_pos (by omega)]) fun j _ hj => by
  by_cases e : j ≤ k
  ·rw [if_pos e, if_pos (by omega)]
  ·rw [if_neg e, if_neg (by omega)]
theorem atB_succ {k : Nat} (hk : k < n) : (atB S X Y n k).set (n - (k + 1)) (cB S X Y n (n - (k + 1))) = atB S X Y n (k + 1) :=
 mkL_set _ _ _ (by omega) (by rw [if_pos (by omega)]) fun j _ hj => by
  by_cases e : n - k ≤ j
  ·rw [if_pos e, if_pos (by omega)]
  ·rw [if_neg e, if_neg (by omega)]
theorem atX_succ {k : Nat} (hk : k < n) : (atX S X Y n k).set k (cX S X Y n k) = atX S X Y n (k + 1) :=
 mkL_set _ _ _ hk (by rw [if_pos (by omega)]) fun j _ hj => by
  by_cases e : j < k
  ·rw [if_pos e, if_pos (by omega)]
  ·rw [if_neg e, if_neg (by omega)]
theorem atY_succ {k : Nat} (hk : k < n) : (atY S X Y n k).set k (cY S X Y n k) = atY S X Y n (k + 1) :=
 mkL_set _ _ _ hk (by rw [if_pos (by omega)]) fun j _ hj => by
  by_cases e : j < k
  ·rw [if_pos e, if_pos (by omega)]
  ·rw [if_neg e, if_neg (by omega)]
theorem atF_get {k j : Nat} (hj : j ≤ n) : gB (atF S X Y n k) j = if j ≤ k then cF S X Y j else gB S j := gB_mk _ (by omega)
theorem atB_get {k j : Nat} (hj : j ≤ n) : gB (atB S X Y n k) j = if n - k ≤ j then cB S X Y n j else cF S X Y j := gB_mk _ (by omega)
theorem atX_get {k j : Nat} (hj : j < n) : gB (atX S X Y n k) j = if j < k then cX S X Y n j else gB X j := gB_mk _ hj
theorem atY_get {k j : Nat} (hj : j < n) : gB (atY S X Y n k) j = if j < k then cY S X Y n j else gB Y j := gB_mk _ hj
theorem fw_val {s x y : Bd} (hs : valB s) (hx : valB x) (hy : valB y) : valB (fwB s x y) ∧ valB (bwB s x y) := by
 simp only [valB, fwB, bwB] at *; omega
theorem fl_val {s t x : Bd} (hs : valB s) (ht : valB t) (hx : valB x) : valB (inF s t x) ∧ valB (outF s t x) := by
 simp only [valB, inF, outF] at *; omega
theorem fold_F (h : Lens S X Y n) : ∀ k, k ≤ n → match foldM (stpL X Y false) S ((stepsL n false).take k) with
  | some L => L = atF S X Y n k ∧ ∀ i, i ≤ k → valB (cF S X Y i)
  | none => ¬ VD S X Y n
 | 0, _ => by
  simp only [List.take_zero, foldM]
  exact ⟨(atF_zero h).symm, fun i hi => by (obtain rfl : i = 0 := by omega); exact (h.gs (Nat.zero_le _)).val⟩
 | k + 1, hk => by
  have ih := fold_F h k (by omega)
  rw [List.take_add_one, stepsL_get n false (by omega)]
  simp only [Bool.false_eq_true, if_false, Option.toList, foldM_snoc]
  split at ih
  ·rename_i L hL
   obtain ⟨rfl, hv⟩ := ih
   rw [hL]
   simp only [Option.bind_some, stpL, Bool.false_eq_true, if_false, Int.toNat_natCast]
   rw [atF_get (by omega), if_neg (by omega), atF_get (by omega), if_pos (Nat.le_refl k)]
   cases hn : narB (gB S (k + 1)) (fwB (cF S X Y k) (gB X k) (gB Y k)) with
   | none =>
    simp only [Option.map_none]
    intro hV
    exact narB_none hn (h.gs hk).val (fw_val (hv k (Nat.le_refl _)) (h.gx (by omega)).val (h.gy (by omega)).val).1 (hV (k + 1) hk)
   | some d =>
    obtain ⟨rfl, _, _, hd⟩ := narB_some hn
    simp only [Option.map_some]
    refine ⟨atF_succ (by omega), fun i hi => ?_⟩
    by_cases e : i = k + 1
    ·subst e; exact hd
    ·exact hv i (by omega)
  ·rename_i hL
   rw [hL]
   exact ih
theorem fold_B (h : Lens S X Y n) (hv : VD S X Y n) : ∀ k, k ≤ n → foldM (stpL X Y true) (mkL (n + 1) (cF S X Y)) ((stepsL n true).take k) = some (atB S X Y n k)
 | 0, _ => by simp only [List.take_zero, foldM]; rw [atB_zero]
 | k + 1, hk => by
  have ih := fold_B h hv k (by omega)
  rw [List.take_add_one, stepsL_get n true (by omega)]
  simp only [if_true, Option.toList, foldM_snoc, ih, Option.bind_some, stpL]
  rw [show ((n : Int) - 1 - (k : Int)).toNat = n - (k + 1) by omega, atB_get (by omega), if_neg (by omega), atB_get (by omega), if_pos (by omega)]
  have h1 := (h.vd hv).B (show n - (k + 1) ≤ n by omega)
  rw [chB_step (by omega)] at h1
  have h2 : narB (cF S X Y (n - (k + 1))) (bwB (cB S X Y n (n - (k + 1) + 1)) (gB X (n - (k + 1))) (gB Y (n - (k + 1)))) = some (cB S X Y n (n - (k + 1))) := by
   exact (narB_of (hv _ (by omega)) (fw_val ((h.vd hv).B (by omega)) (h.gx (by omega)).val (h.gy (by omega)).val).2 h1).trans (congrArg some (chB_step (by omega)).symm)
  rw [h2]
  simp only [Option.map_some]
  rw [atB_succ (by omega)]
theorem fold_X (h : Lens S X Y n) (hv : VD S X Y n) : ∀ k, k ≤ n → foldM (stpF (mkL (n + 1) (cB S X Y n)) X Y) (X, Y) ((stepsL n false).take k) = some (atX S X Y n k, atY S X Y n k)
 | 0, _ => by simp only [List.take_zero, foldM]; rw [atX_zero h, atY_zero h]
 | k + 1, hk => by
  have ih := fold_X h hv k (by omega)
  rw [List.take_add_one, stepsL_get n false (by omega)]
  simp only [Bool.false_eq_true, if_false, Option.toList, foldM_snoc, ih, Option.bind_some, stpF, Int.toNat_natCast]
  rw [atX_get (by omega), if_neg (by omega), atY_get (by omega), if_neg (by omega), gB_mk _ (by omega), gB_mk _ (by omega)]
  have b1 := (h.vd hv).B (show k ≤ n by omega)
  have b2 := (h.vd hv).B (show k + 1 ≤ n by omega)
  have h1 : narB (gB X k) (inF (cB S X Y n k) (cB S X Y n (k + 1)) (gB Y k)) = some (cX S X Y n k) := narB_of (h.gx (by omega)).val (fl_val b1 b2 (h.gy (by omega)).val).1 ((h.vd hv).cx (by omega))
  have h2 : narB (gB Y k) (outF (cB S X Y n k) (cB S X Y n (k + 1)) (gB X k)) = some (cY S X Y n k) := narB_of (h.gy (by omega)).val (fl_val b1 b2 (h.gx (by omega)).val).2 ((h.vd hv).cy (by omega))
  rw [h1, h2]
  simp only
  rw [atX_succ (by omega), atY_succ (by omega)]
end
def tgt (a : Ac) : Ac := ⟨a.fr, mkL (a.ins.length + 1) (cB a.st a.ins a.outs a.ins.length), mkL a.ins.length (cX a.st a.ins a.outs a.ins.length), mkL a.ins.length (cY a.st a.ins a.outs a.ins.length)⟩
theorem AcOK.lens {a : Ac} (h : AcOK a) : Lens a.st a.ins a.outs a.ins.length := ⟨h.ns, rfl, h.no, h.bs, h.bi, h.bo⟩
def acZ : Ac := ⟨0, [], [], []⟩
def vdB (S X Y : List Bd) (n : Nat) : Bool := (List.range (n + 1)).all fun i => decide ((cF S X Y i).lo ≤ (cF S X Y i).hi)
theorem vdB_iff {S X Y : List Bd} {n : Nat} : vdB S X Y n = true ↔ VD S X Y n := by
 simp only [vdB, List.all_eq_true, List.mem_range, decide_eq_true_eq, VD, valB]
 exact ⟨fun h i hi => h i (by omega), fun h i hi => h i (by omega)⟩
def tightS (a : Ac) : Ac × Int := if chk a ≠ 0 then (acZ, chk a) else if vdB a.st a.ins a.outs a.ins.length then (tgt a, 0) else (acZ, 48)
structure AcO (τ : St) (o1 o2 o3 : Nat × Nat) (t1 t2 t3 : TypeId) (L1 L2 L3 : List Bd) : Prop where
 h1 : τ.ob o1.1 = some ⟨o1.2, 2, t1, false, true, bds L1⟩
 h2 : τ.ob o2.1 = some ⟨o2.2, 2, t2, false, true, bds L2⟩
 h3 : τ.ob o3.1 = some ⟨o3.2, 2, t3, false, true, bds L3⟩
 n12 : o1.1 ≠ o2.1
 n13 : o1.1 ≠ o3.1
 n23 : o2.1 ≠ o3.1
 l1 : o1.1 < τ.n
 l2 : o2.1 < τ.n
 l3 : o3.1 < τ.n
def acO (f : Int) (o1 o2 o3 : Nat × Nat) (a b c : Nat) : AV := .agg [.int .i64 f, .sl o1.1 o1.2 2 0 a, .sl o2.1 o2.2 2 0 b, .sl o3.1 o3.2 2 0 c]
theorem AcO.as {σ τ : St} {o1 o2 o3 : Nat × Nat} {t1 t2 t3 : TypeId} {L1 L2 L3 : List Bd} (h : AcO σ o1 o2 o3 t1 t2 t3 L1 L2 L3) (k : AsO σ τ) : AcO τ o1 o2 o3 t1 t2 t3 L1 L2 L3 :=
 ⟨(k.2 _ h.l1).trans h.h1, (k.2 _ h.l2).trans h.h2, (k.2 _ h.l3).trans h.h3, h.n12, h.n13, h.n23, Nat.lt_of_lt_of_le h.l1 k.1, Nat.lt_of_lt_of_le h.l2 k.1, Nat.lt_of_lt_of_le h.l3 k.1⟩
theorem AcO.put1 {σ τ : St} {o1 o2 o3 : Nat × Nat} {t1 t2 t3 : TypeId} {L1 L2 L3 L : List Bd} (h : AcO σ o1 o2 o3 t1 t2 t3 L1 L2 L3) (k : PutO σ o1.1 ⟨o1.2, 2, t1, false, true, bds L⟩ τ) : AcO τ o1 o2 o3 t1 t2 t3 L L2 L3 :=
 ⟨k.2.1, (k.2.2 _ h.l2 h.n12.symm).trans h.h2, (k.2.2 _ h.l3 h.n13.symm).trans h.h3, h.n12, h.n13, h.n23, Nat.lt_of_lt_of_le h.l1 k.1, Nat.lt_of_lt_of_le h.l2 k.1, Nat.lt_of_lt_of_le h.l3 k.1⟩
theorem AcO.put2 {σ τ : St} {o1 o2 o3 : Nat × Nat} {t1 t2 t3 : TypeId} {L1 L2 L3 L : List Bd} (h : AcO σ o1 o2 o3 t1 t2 t3 L1 L2 L3) (k : PutO σ o2.1 ⟨o2.2, 2, t2, false, true, bds L⟩ τ) : AcO τ o1 o2 o3 t1 t2 t3 L1 L L3 :=
 ⟨(k.2.2 _ h.l1 h.n12).trans h.h1, k.2.1, (k.2.2 _ h.l3 h.n23.symm).trans h.h3, h.n12, h.n13, h.n23, Nat.lt_of_lt_of_le h.l1 k.1, Nat.lt_of_lt_of_le h.l2 k.1, Nat.lt_of_lt_of_le h.l3 k.1⟩
theorem AcO.put3 {σ τ : St} {o1 o2 o3 : Nat × Nat} {t1 t2 t3 : TypeId} {L1 L2 L3 L : List Bd} (h : AcO σ o1 o2 o3 t1 t2 t3 L1 L2 L3) (k : PutO σ o3.1 ⟨o3.2, 2, t3, false, true, bds L⟩ τ) : AcO τ o1 o2 o3 t1 t2 t3 L1 L2 L :=
 ⟨(k.2.2 _ h.l1 h.n13).trans h.h1, (k.2.2 _ h.l2 h.n23).trans h.h2, k.2.1, h.n12, h.n13, h.n23, Nat.lt_of_lt_of_le h.l1 k.1, Nat.lt_of_lt_of_le h.l2 k.1, Nat.lt_of_lt_of_le h.l3 k.1⟩
theorem fit_bd {b : Bd} (h : fitB b) : 0 ≤ b.lo ∧ b.lo ≤ b.hi ∧ b.hi ≤ 274877906944 := h
def Twin (σ : St) (a : Ac) (t : TypeId) (r : AV) (τ : St) : Prop := ∃ o1 o2 o3, r = acO a.fr o1 o2 o3 a.st.length a.ins.length a.outs.length ∧ AcO τ o1 o2 o3 t t t a.st a.ins a.outs ∧ σ.n ≤ o1.1 ∧ σ.n ≤ o2.1 ∧ σ.n ≤ o3.1 ∧ AsO σ τ
theorem pub_bds {σ : St} {id g k : Nat} {ty : TypeId} {ro ap : Bool} {L : List Bd} (h : σ.ob id = some ⟨g, 2, ty, ro, ap, bds L⟩) (hk : k = L.length) : Pub σ (.sl id g 2 0 k) (.list 2 (bds L)) := by
 subst hk
 rw [← bds_length]
 exact Pub.of_sl h rfl (bds_pur L) (bds_ok L)
theorem AsO.refl (σ : St) : AsO σ σ := ⟨Nat.le_refl _, fun _ _ => rfl⟩
theorem AsO.trans {σ τ ρ : St} (h : AsO σ τ) (k : AsO τ ρ) : AsO σ ρ := ⟨Nat.le_trans h.1 k.1, fun i hi => (k.2 i (Nat.lt_of_lt_of_le hi h.1)).trans (h.2 i hi)⟩
theorem stpL_length {X Y : List Bd} {back : Bool} {L M : List Bd} {i : Nat} (h : stpL X Y back L i = some M) : M.length = L.length := by
 unfold stpL at h
 split at h <;> (obtain ⟨d, _, rfl⟩ := Option.map_eq_some_iff.1 h; simp)
theorem gB_fit {L : List Bd} (h : ∀ b ∈ L, fitB b) {i : Nat} (hi : i < L.length) : fitB (gB L i) := h _ (List.mem_of_getElem? (gB_get hi))
theorem stpL_fit {X Y : List Bd} {back : Bool} {L M : List Bd} {i : Nat} (hf : ∀ b ∈ L, fitB b) (hi : i + 1 < L.length) (h : stpL X Y back L i = some M) : ∀ b ∈ M, fitB b := by
 have key : ∀ {k : Nat} {c d : Bd}, k < L.length → narB (gB L k) c = some d → ∀ b ∈ L.set k d, fitB b := fun {k c d} hk hn b hb => by
  rcases List.mem_or_eq_of_mem_set hb with hb | rfl
  ·exact hf b hb
  ·obtain ⟨rfl, _, _, hd⟩ := narB_some hn
   exact meet_fit (gB_fit hf hk) hd
 unfold stpL at h
 split at h
 ·obtain ⟨d, hn, rfl⟩ := Option.map_eq_some_iff.1 h; exact key (by omega) hn
 ·obtain ⟨d, hn, rfl⟩ := Option.map_eq_some_iff.1 h; exact key hi hn
theorem inB_fit {b : Bd} {v : Int} (hb : fitB b) (h : inB b v) : 0 ≤ v ∧ v ≤ 274877906944 := by
 simp only [fitB, inB, mxV] at *; omega
theorem bds_snoc (l : List Bd) (b : Bd) : bds (l ++ [b]) = bds l ++ [.agg [.int .i64 b.lo, .int .i64 b.hi]] := by simp [bds, bdv]
theorem hc_ledger_twin (σ : St) (a : Ac) (h1 : a.st.length ≤ 4611686018427) (h2 : a.ins.length ≤ 4611686018427) (h3 : a.outs.length ≤ 4611686018427) : HC prog n_ledger_twin [acv a] σ (Twin σ a ty_el_Bounds) := by
 obtain ⟨ob, n, c⟩ := σ
 refine HC_of_body b_ledger_twin (by simp) ?_
 simp only [c_ledger_twin, go_sem, jA, jB, jC, jD, jE, jF, jG, jH, jI, jJ, ↓reduceIte, reduceCtorEq, jP, acv]
 try simp (disch := omega) only [go_sem, jA, jB, jC, jD, jE, jF, jG, jH, jI, jJ, ↓reduceIte, reduceCtorEq, jO, jM, jN, jK, jL]
 refine (hcl_slices_Clone__Bounds _ (bds a.st) (by rw [bds_length]; omega)).mono ?_
 rintro _ τ1 ⟨i1, g1, rfl, p1, p2, p3, p4⟩
 obtain ⟨ob1, m1, c1⟩ := τ1
 simp only at p1 p2 p3 p4
 have pn : ob1 n = _ := (p4 n (by omega)).trans (by rw [upd_ne _ _ _ _ (by omega), upd_same])
 try simp (disch := omega) only [go_sem, jA, jB, jC, jD, jE, jF, jG, jH, jI, jJ, ↓reduceIte, reduceCtorEq, jO, jM, jN, jK, jL]
 refine ⟨pn, ?_⟩
 refine (hcl_slices_Clone__Bounds _ (bds a.ins) (by rw [bds_length]; omega)).mono ?_
 rintro _ τ2 ⟨i2, g2, rfl, q1, q2, q3, q4⟩
 obtain ⟨ob2, m2, c2⟩ := τ2
 simp only at q1 q2 q3 q4
 have qn : ob2 n = _ := q4 n (by omega)
 try simp (disch := omega) only [go_sem, jA, jB, jC, jD, jE, jF, jG, jH, jI, jJ, ↓reduceIte, reduceCtorEq, jO, jM, jN, jK, jL]
 refine ⟨by first | exact qn | exact qn.trans pn, ?_⟩
 refine (hcl_slices_Clone__Bounds _ (bds a.outs) (by rw [bds_length]; omega)).mono ?_
 rintro _ τ3 ⟨i3, g3, rfl, r1, r2, r3, r4⟩
 obtain ⟨ob3, m3, c3⟩ := τ3
 simp only at r1 r2 r3 r4
 have k1 : ob3 (n + 1) = _ := (r4 (n + 1) (by omega)).trans ((q4 (n + 1) (by omega)).trans ((p4 (n + 1) (by omega)).trans (upd_same _ _ _)))
 try simp (disch := omega) only [go_sem, jA, jB, jC, jD, jE, jF, jG, jH, jI, jJ, ↓reduceIte, reduceCtorEq, jO, jM, jN, jK, jL, k1, bds_length]
 have x1 : ¬ i1 = n + 1 := by omega
 have x2 : ¬ i2 = n + 1 := by omega
 have x3 : ¬ i3 = n + 1 := by omega
 refine ⟨r4 n (by omega), (i1, g1), (i2, g2), (i3, g3), rfl, ⟨?_, ?_, ?_, by simp only; omega, by simp only; omega, by simp only; omega, by simp only; omega, by simp only; omega, r2⟩, by simp only; omega, by simp only; omega, by simp only; omega, by simp only; omega, fun k hk => ?_⟩
 ·try simp (disch := omega) only [go_sem, jA, jB, jC, jD, jE, jF, jG, jH, jI, jJ, ↓reduceIte, reduceCtorEq, jO, jM, jN, jK, jL, x1]; exact (r4 i1 (by omega)).trans ((q4 i1 (by omega)).trans p3)
 ·try simp (disch := omega) only [go_sem, jA, jB, jC, jD, jE, jF, jG, jH, jI, jJ, ↓reduceIte, reduceCtorEq, jO, jM, jN, jK, jL, x2]; exact (r4 i2 (by omega)).trans q3
 ·try simp (disch := omega) only [go_sem, jA, jB, jC, jD, jE, jF, jG, jH, jI, jJ, ↓reduceIte, reduceCtorEq, jO, jM, jN, jK, jL, x3]; exact r3
 ·simp only at hk
  have y1 : ¬ k = n + 1 := by omega
  have y2 : ¬ k = n := by omega
  try simp (disch := omega) only [go_sem, jA, jB, jC, jD, jE, jF, jG, jH, jI, jJ, ↓reduceIte, reduceCtorEq, jO, jM, jN, jK, jL, y1]
  refine (r4 k (by omega)).trans ((q4 k (by omega)).trans ((p4 k (by omega)).trans ?_))
  try simp (disch := omega) only [go_sem, jA, jB, jC, jD, jE, jF, jG, jH, jI, jJ, ↓reduceIte, reduceCtorEq, jO, jM, jN, jK, jL, y1, y2]
theorem hc_ledger_step (σ : St) (id g : Nat) (ty t1 t2 t3 : TypeId) (o1 o2 o3 : Nat × Nat) (f : Int) (L X Y : List Bd) (i : Nat) (back : Bool) (hob : σ.ob id = some ⟨g, 4, ty, false, true, [acO f o1 o2 o3 L.length X.length Y.length]⟩) (hid : id < σ.n)
  (hO : AcO σ o1 o2 o3 t1 t2 t3 L X Y) (hm : L.length ≤ 4611686018427387904) (hl : i + 1 < L.length) (hx : i < X.length) (hy : i < Y.length) (fs : fitB (gB L i)) (ft : fitB (gB L (i + 1))) (fx : fitB (gB X i)) (fy : fitB (gB Y i)) :
  HC prog n_ledger_step [.ptr id g 4 0 0, .int .i64 i, .bool back] σ (fun r τ => r = .bool (stpL X Y back L i).isSome ∧ PutO σ o1.1 ⟨o1.2, 2, t1, false, true, bds ((stpL X Y back L i).getD L)⟩ τ) := by
 obtain ⟨ob, n, c⟩ := σ
 obtain ⟨w1, w2, w3, n12, n13, n23, l1, l2, l3⟩ := hO
 simp only at hob hid w1 w2 w3 l1 l2 l3
 have e1 := gB_get (show i < L.length by omega)
 have e2 := gB_get hl
 have e3 := gB_get hx
 have e4 := gB_get hy
 have hst : ∀ b, stpL X Y b L i = if b then (narB (gB L i) (bwB (gB L (i + 1)) (gB X i) (gB Y i))).map fun d => L.set i d else (narB (gB L (i + 1)) (fwB (gB L i) (gB X i) (gB Y i))).map fun d => L.set (i + 1) d := fun b => rfl
 rw [hst]
 generalize gB L i = s at *
 generalize gB L (i + 1) = t at *
 generalize gB X i = x at *
 generalize gB Y i = y at *
 have fs := fit_bd fs
 have ft := fit_bd ft
 have fx := fit_bd fx
 have fy := fit_bd fy
 have hin : ((i : Int) + 1).toNat = i + 1 := by omega
 have set_self : ∀ {k : Nat} {b : Bd}, L[k]? = some b → L.set k b = L := fun {k b} h => by
  obtain ⟨_, h⟩ := List.getElem?_eq_some_iff.1 h
  rw [← h]; exact List.set_getElem_self _
 refine HC_of_body b_ledger_step (by simp) ?_
 simp only [c_ledger_step, go_sem, jA, jB, jC, jD, jE, jF, jG, jH, jI, jJ, ↓reduceIte, reduceCtorEq, jP, hob, acO]
 try simp (disch := omega) only [go_sem, jA, jB, jC, jD, jE, jF, jG, jH, jI, jJ, ↓reduceIte, reduceCtorEq, jO, jM, jN, jK, jL, hob, acO, w1, w2, w3, bds_length, bds_get, e1, e2, e3, e4, hin, Option.map_some, bdv]
 refine ⟨by omega, by omega, by omega, by omega, by omega, by omega, by omega, by omega, ?_⟩
 have n1 : ¬ o1.1 = n := by omega
 have n2 : ¬ o1.1 = n + 1 := by omega
 cases back with
 | true =>
  try simp (disch := omega) only [go_sem, jA, jB, jC, jD, jE, jF, jG, jH, jI, jJ, ↓reduceIte, reduceCtorEq, jO, jM, jN, jK, jL, w1, n1, n2, bds_get, e1, e2, hin, Option.map_some, bdv]
  refine (hc_ledger_narrow _ o1.1 o1.2 i t1 L s (bwB t x y) (by try simp (disch := omega) only [go_sem, jA, jB, jC, jD, jE, jF, jG, jH, jI, jJ, ↓reduceIte, reduceCtorEq, jO, jM, jN, jK, jL, n1, n2]; exact w1) e1 (by simp only; omega)).mono ?_
  rintro _ ⟨ob2, m2, c2⟩ ⟨rfl, k1, k2, k3⟩
  simp only at k1 k2 k3
  try simp (disch := omega) only [go_sem, jA, jB, jC, jD, jE, jF, jG, jH, jI, jJ, ↓reduceIte, reduceCtorEq, jO, jM, jN, jK, jL]
  have keep : ∀ k, k < n → k ≠ o1.1 → ob2 k = ob k := fun k hk hk2 => by
   have h1 : ¬ k = n := by omega
   have h2 : ¬ k = n + 1 := by omega
   rw [k3 k (by omega) hk2]
   try simp (disch := omega) only [go_sem, jA, jB, jC, jD, jE, jF, jG, jH, jI, jJ, ↓reduceIte, reduceCtorEq, jO, jM, jN, jK, jL, h1, h2]
  cases hn : narB s (bwB t x y) with
  | none => rw [hn] at k2; exact ⟨rfl, by simp only; omega, k2.trans (by simp [set_self e1]), keep⟩
  | some d => rw [hn] at k2; exact ⟨rfl, by simp only; omega, k2.trans (by rfl), keep⟩
 | false =>
  try simp (disch := omega) only [go_sem, jA, jB, jC, jD, jE, jF, jG, jH, jI, jJ, ↓reduceIte, reduceCtorEq, jO, jM, jN, jK, jL, w1, n1, n2, bds_get, e1, e2, hin, Option.map_some, bdv]
  refine (hc_ledger_narrow _ o1.1 o1.2 (i + 1) t1 L t (fwB s x y) (by try simp (disch := omega) only [go_sem, jA, jB, jC, jD, jE, jF, jG, jH, jI, jJ, ↓reduceIte, reduceCtorEq, jO, jM, jN, jK, jL, n1, n2]; exact w1) e2 (by simp only; omega)).mono ?_
  rintro _ ⟨ob2, m2, c2⟩ ⟨rfl, k1, k2, k3⟩
  simp only at k1 k2 k3
  try simp (disch := omega) only [go_sem, jA, jB, jC, jD, jE, jF, jG, jH, jI, jJ, ↓reduceIte, reduceCtorEq, jO, jM, jN, jK, jL]
  have keep : ∀ k, k < n → k ≠ o1.1 → ob2 k = ob k := fun k hk hk2 => by
   have h1 : ¬ k = n := by omega
   have h2 : ¬ k = n + 1 := by omega
   rw [k3 k (by omega) hk2]
   try simp (disch := omega) only [go_sem, jA, jB, jC, jD, jE, jF, jG, jH, jI, jJ, ↓reduceIte, reduceCtorEq, jO, jM, jN, jK, jL, h1, h2]
  try simp only [Bool.false_eq_true, if_false]
  cases hn : narB t (fwB s x y) with
  | none => rw [hn] at k2; exact ⟨rfl, by simp only; omega, k2.trans (by simp [set_self e2]), keep⟩
  | some d => rw [hn] at k2; exact ⟨rfl, by simp only; omega, k2.trans (by rfl), keep⟩
theorem rangeK_i {It : Nat → List AV → List Int → Prop} {f t d : Nat} {caps : List AV} {B : awpK → (Nat → AV) → St → Prop} {Q : awpK} {e : Nat → AV} {σ : St} (xs : List AV) (vs : List Int) (hit : It f xs vs)
  (I : List Int → St → Prop) (Ix : EX → List Int → St → Prop) (h0 : I [] σ) (hc : ∀ pre σ1, I pre σ1 → Caps σ1 caps xs ∧ NoMap σ σ1) (hm : ∀ x pre σ1, x ≠ .nrm → Ix x pre σ1 → NoMap σ σ1)
  (hb : ∀ pre i σ1, i ∈ vs → pre.length < vs.length → I pre σ1 → B (RangeQ σ.n I Ix (pre ++ [i])) (upd (upd e t (.int .i64 i)) d (.int .i64 i)) σ1)
  (hn : ∀ σ1, I vs σ1 → Q .nrm e σ1) (hx : ∀ x pre σ1, x ≠ .nrm → pre <+: vs → Ix x pre σ1 → Q x e σ1) : rangeK It (.func f caps) B t d Q e σ := ⟨xs, vs, hit, I, Ix, h0, hc, hm, hb, hn, hx⟩
theorem range_next {n : Nat} {I : List Int → St → Prop} {Ix : EX → List Int → St → Prop} {pre : List Int} {e : Nat → AV} {σ : St} (nt : Nat) (h : n ≤ nt) (hI : I pre (σ.trunc nt)) : RangeQ n I Ix pre .nrm e σ := ⟨nt, h, hI⟩
theorem range_ret {n : Nat} {I : List Int → St → Prop} {Ix : EX → List Int → St → Prop} {pre : List Int} {e : Nat → AV} {σ : St} (nt : Nat) (h : n ≤ nt) (hI : Ix .ret pre (σ.trunc nt)) : RangeQ n I Ix pre .ret e σ := ⟨nt, h, hI⟩
theorem NoMap.rfl' (σ : St) : NoMap σ σ := fun k o ho _ => ⟨k, o, ho, rfl⟩
theorem NoMap.trunc {σ σ1 : St} (h : NoMap σ σ1) (nt : Nat) : NoMap σ (σ1.trunc nt) := fun k o ho ht => by
 simp only [St.trunc] at ho
 split at ho
 ·exact h k o ho ht
 ·cases ho
theorem NoMap.put {σ σ1 τ : St} {id nt : Nat} {ob : AObj} (h : NoMap σ (σ1.trunc nt)) (k : PutO σ1 id ob τ) (ho : ob.ty ≠ mapTy) (hn : nt ≤ σ1.n) : NoMap σ (τ.trunc nt) := fun i o h1 ht => by
 simp only [St.trunc] at h1
 split at h1
 ·rename_i hi
  by_cases e : i = id
  ·subst e; rw [k.2.1] at h1; cases h1; exact absurd ht ho
  ·exact h i o (by simp only [St.trunc]; rw [if_pos hi, ← k.2.2 i (by omega) e]; exact h1) ht
 ·cases h1
theorem NoMap.upd {σ : St} {ob : Nat → Option AObj} {n c a nt : Nat} {x : AObj} (h : NoMap σ (St.trunc ⟨ob, n, c⟩ nt)) (hx : x.ty ≠ mapTy) : NoMap σ (St.trunc ⟨Go.Ab.upd ob a (some x), n, c⟩ nt) := fun i o h1 ht => by
 simp only [St.trunc, Go.Ab.upd] at h1
 split at h1
 ·rename_i hi
  split at h1
  ·cases h1; exact absurd ht hx
  ·exact h i o (by simp only [St.trunc]; rw [if_pos hi]; exact h1) ht
 ·cases h1
theorem Caps.two {σ : St} {i1 g1 i2 g2 : Nat} {t1 t2 : TypeId} {a1 a2 : Bool} {x1 x2 : AV} {v1 v2 : Value} (h1 : σ.ob i1 = some ⟨g1, 1, t1, false, a1, [x1]⟩) (h2 : σ.ob i2 = some ⟨g2, 1, t2, false, a2, [x2]⟩) (s1 : scalV x1 = some v1) (s2 : scalV x2 = some v2) :
  Caps σ [.ptr i1 g1 1 0 0, .ptr i2 g2 1 0 0] [x1, x2] := ⟨rfl, fun i c x hc hx => by
 match i, hc, hx with
 | 0, hc, hx => simp at hc hx; subst hc; subst hx; exact ⟨⟨_, s1⟩, i1, g1, _, rfl, h1, rfl, rfl, rfl⟩
 | 1, hc, hx => simp at hc hx; subst hc; subst hx; exact ⟨⟨_, s2⟩, i2, g2, _, rfl, h2, rfl, rfl, rfl⟩
 | i + 2, hc, hx => simp at hc⟩
structure TI (a : Ac) (o1 o2 o3 : Nat × Nat) (m c : Nat) (L1 L2 L3 : List Bd) (σ : St) : Prop where
 ac : AcO σ o1 o2 o3 ty_el_Bounds ty_el_Bounds ty_el_Bounds L1 L2 L3
 w0 : σ.ob 0 = some ⟨0, 4, 41, false, true, [.agg [.int .i64 a.fr, .list 2 (bds a.st), .list 2 (bds a.ins), .list 2 (bds a.outs)]]⟩
 w1 : σ.ob 1 = some ⟨1, 4, 41, false, true, [.agg [.int .i64 0, .nil, .nil, .nil]]⟩
 w2 : σ.ob 2 = some ⟨2, 1, 44, false, true, [.int .i64 0]⟩
 wm : σ.ob m = some ⟨c, 4, 41, false, true, [acO a.fr o1 o2 o3 a.st.length a.ins.length a.outs.length]⟩
 hm : m < σ.n
 g1 : 3 ≤ o1.1 ∧ o1.1 < m
 g2 : 3 ≤ o2.1 ∧ o2.1 < m
 g3 : 3 ≤ o3.1 ∧ o3.1 < m
section
variable {a : Ac} {o1 o2 o3 : Nat × Nat} {m c : Nat} {L1 L2 L3 L : List Bd} {σ τ : St}
theorem TI.as (h : TI a o1 o2 o3 m c L1 L2 L3 σ) (k : AsO σ τ) : TI a o1 o2 o3 m c L1 L2 L3 τ := by
 have h1 := h.g1; have h2 := h.hm
 exact ⟨h.ac.as k, (k.2 0 (by omega)).trans h.w0, (k.2 1 (by omega)).trans h.w1, (k.2 2 (by omega)).trans h.w2, (k.2 m h.hm).trans h.wm, Nat.lt_of_lt_of_le h.hm k.1, h.g1, h.g2, h.g3⟩
theorem TI.trunc (h : TI a o1 o2 o3 m c L1 L2 L3 σ) {nt : Nat} (hn : m < nt) : TI a o1 o2 o3 m c L1 L2 L3 (σ.trunc nt) := by
 have h1 := h.g1; have h2 := h.g2; have h3 := h.g3
 have k : ∀ i, i ≤ m → (σ.trunc nt).ob i = σ.ob i := fun i hi => by simp only [St.trunc]; rw [if_pos (by omega)]
 have kn : (σ.trunc nt).n = nt := rfl
 exact ⟨⟨(k _ (by omega)).trans h.ac.h1, (k _ (by omega)).trans h.ac.h2, (k _ (by omega)).trans h.ac.h3, h.ac.n12, h.ac.n13, h.ac.n23, by omega, by omega, by omega⟩,
  (k _ (by omega)).trans h.w0, (k _ (by omega)).trans h.w1, (k _ (by omega)).trans h.w2, (k _ (by omega)).trans h.wm, by omega, h.g1, h.g2, h.g3⟩
theorem TI.put1 (h : TI a o1 o2 o3 m c L1 L2 L3 σ) (k : PutO σ o1.1 ⟨o1.2, 2, ty_el_Bounds, false, true, bds L⟩ τ) : TI a o1 o2 o3 m c L L2 L3 τ := by
 have h1 := h.g1; have h2 := h.hm
 exact ⟨h.ac.put1 k, (k.2.2 0 (by omega) (by omega)).trans h.w0, (k.2.2 1 (by omega) (by omega)).trans h.w1, (k.2.2 2 (by omega) (by omega)).trans h.w2, (k.2.2 m h.hm (by omega)).trans h.wm, Nat.lt_of_lt_of_le h.hm k.1, h.g1, h.g2, h.g3⟩
theorem TI.put2 (h : TI a o1 o2 o3 m c L1 L2 L3 σ) (k : PutO σ o2.1 ⟨o2.2, 2, ty_el_Bounds, false, true, bds L⟩ τ) : TI a o1 o2 o3 m c L1 L L3 τ := by
 have h1 := h.g2; have h2 := h.hm
 exact ⟨h.ac.put2 k, (k.2.2 0 (by omega) (by omega)).trans h.w0, (k.2.2 1 (by omega) (by omega)).trans h.w1, (k.2.2 2 (by omega) (by omega)).trans h.w2, (k.2.2 m h.hm (by omega)).trans h.wm, Nat.lt_of_lt_of_le h.hm k.1, h.g1, h.g2, h.g3⟩
theorem TI.put3 (h : TI a o1 o2 o3 m c L1 L2 L3 σ) (k : PutO σ o3.1 ⟨o3.2, 2, ty_el_Bounds, false, true, bds L⟩ τ) : TI a o1 o2 o3 m c L1 L2 L τ := by
 have h1 := h.g3; have h2 := h.hm
 exact ⟨h.ac.put3 k, (k.2.2 0 (by omega) (by omega)).trans h.w0, (k.2.2 1 (by omega) (by omega)).trans h.w1, (k.2.2 2 (by omega) (by omega)).trans h.w2, (k.2.2 m h.hm (by omega)).trans h.wm, Nat.lt_of_lt_of_le h.hm k.1, h.g1, h.g2, h.g3⟩
end
def LK (a : Ac) (n k : Nat) (L : List Bd) : Prop := (k = 0 ∧ L = a.st) ∨ (k = 1 ∧ VD a.st a.ins a.outs n ∧ L = mkL (n + 1) (cF a.st a.ins a.outs)) ∨ (k = 2 ∧ VD a.st a.ins a.outs n ∧ L = mkL (n + 1) (cB a.st a.ins a.outs n))
theorem LK.fit {a : Ac} {n k : Nat} {L : List Bd} (h : LK a n k L) (hl : Lens a.st a.ins a.outs n) : L.length = n + 1 ∧ ∀ b ∈ L, fitB b := by
 rcases h with ⟨_, rfl⟩ | ⟨_, hv, rfl⟩ | ⟨_, hv, rfl⟩
 ·exact ⟨hl.s, hl.fs⟩
 ·refine ⟨mkL_length _ _, fun b hb => ?_⟩
  obtain ⟨i, hi, rfl⟩ := mkL_mem hb
  exact cF_fit hl (by omega) (hv i (by omega))
 ·refine ⟨mkL_length _ _, fun b hb => ?_⟩
  obtain ⟨i, hi, rfl⟩ := mkL_mem hb
  exact cB_fit hl hv (by omega)
theorem LK.next {a : Ac} {n k : Nat} {L M : List Bd} (h : LK a n k L) (hl : Lens a.st a.ins a.outs n) (hk : k < 2) (hM : foldM (stpL a.ins a.outs (decide (k = 1))) L (stepsL n (decide (k = 1))) = some M) : LK a n (k + 1) M := by
 have ht : ∀ b, (stepsL n b).take n = stepsL n b := fun b => List.take_of_length_le (by rw [stepsL_length]; exact Nat.le_refl _)
 rcases h with ⟨rfl, rfl⟩ | ⟨rfl, hv, rfl⟩ | ⟨rfl, _, _⟩
 ·have := fold_F hl n (Nat.le_refl _)
  rw [ht] at this
  simp only [Nat.zero_ne_one, decide_false] at hM
  rw [hM] at this
  exact .inr (.inl ⟨rfl, this.2, by rw [this.1, atF_end]⟩)
 ·have := fold_B hl hv n (Nat.le_refl _)
  rw [ht] at this
  simp only [decide_true] at hM
  rw [hM] at this
  obtain rfl := Option.some.inj this
  exact .inr (.inr ⟨rfl, hv, by rw [atB_end]⟩)
 ·omega
theorem LK.bad {a : Ac} {n k : Nat} {L : List Bd} (h : LK a n k L) (hl : Lens a.st a.ins a.outs n) (hk : k < 2) {pre : List Int} (hp : pre <+: stepsL n (decide (k = 1))) (hM : foldM (stpL a.ins a.outs (decide (k = 1))) L pre = none) : ¬ VD a.st a.ins a.outs n := by
 have ht : ∀ b, (stepsL n b).take n = stepsL n b := fun b => List.take_of_length_le (by rw [stepsL_length]; exact Nat.le_refl _)
 have hM := foldM_none _ hp hM
 rcases h with ⟨rfl, rfl⟩ | ⟨rfl, hv, rfl⟩ | ⟨rfl, _, _⟩
 ·have := fold_F hl n (Nat.le_refl _)
  rw [ht] at this
  simp only [Nat.zero_ne_one, decide_false] at hM
  rw [hM] at this
  exact this
 ·have := fold_B hl hv n (Nat.le_refl _)
  rw [ht] at this
  simp only [decide_true] at hM
  rw [hM] at this
  cases this
 ·omega
theorem ok_ledger_Tighten (a : Ac) (hl : AcL a) : PC prog n_ledger_Tighten [acv a] (.tuple [acv (tightS a).1, .int .i64 (tightS a).2]) := by
 have no : ∀ {σ : St} {e : Int}, tightS a = (acZ, e) → Pub σ (.tuple [.agg [.int .i64 0, .nil, .nil, .nil], .int .i64 e]) (.tuple [acv (tightS a).1, .int .i64 (tightS a).2]) := by
  intro σ e h
  rw [h]
  exact Pub.pair (Pub.ag (.cons (.pure rfl) (.cons (.nl 2) (.cons (.nl 2) (.cons (.nl 2) .nil))))) (.pure rfl)
 refine PC_of_body b_ledger_Tighten (by simp) ?_
 simp only [c_ledger_Tighten, go_sem, jA, jB, jC, jD, jE, jF, jG, jH, jI, jJ, ↓reduceIte, reduceCtorEq, jP, acv]
 refine call_pc (ok_ledger_Check a hl) (by simp [go_sem, acv, bds_pur]) ?_
 try simp (disch := omega) only [go_sem, jA, jB, jC, jD, jE, jF, jG, jH, jI, jJ, ↓reduceIte, reduceCtorEq, jO, jM, jN, jK, jL]
 refine cond_n (fun h => ?_) (fun h => ?_) <;> try simp (disch := omega) only [go_sem, jA, jB, jC, jD, jE, jF, jG, jH, jI, jJ, ↓reduceIte, reduceCtorEq, jO, jM, jN, jK, jL]
 ·exact no (by simp only [tightS, if_pos h])
 have hok := chk_ok.1 h
 have hlen := hok.lens
 obtain ⟨n, hn⟩ : ∃ n, a.ins.length = n := ⟨_, rfl⟩
 rw [hn] at hlen
 have hn4 : 1 ≤ n ∧ n ≤ 400 := by have := hok.n1; have := hok.n2; omega
 have htS : tightS a = if vdB a.st a.ins a.outs n then (tgt a, 0) else (acZ, 48) := by simp only [tightS]; rw [if_neg (by simp [h]), hn]
 refine (hc_ledger_twin _ a (by have := hlen.s; omega) (by omega) (by have := hlen.y; omega)).mono ?_
 rintro _ τ ⟨o1, o2, o3, rfl, hO, g1, g2, g3, hA⟩
 obtain ⟨ob, m, c⟩ := τ
 have hm : 3 ≤ m := by have := hA.1; simpa [go_sem] using this
 have w0 := hA.2 0 (by simp [go_sem])
 have w1 := hA.2 1 (by simp [go_sem])
 have w2 := hA.2 2 (by simp [go_sem])
 simp (maxSteps := 1000000) only [go_sem, jA, jB, jC, jD, jE, jF, jG, jH, jI, jJ, ↓reduceIte, reduceCtorEq, jP] at w0 w1 w2 g1 g2 g3
 have hT : ∀ ob' c', ob' m = some ⟨c, 4, 41, false, true, [acO a.fr o1 o2 o3 a.st.length a.ins.length a.outs.length]⟩ → (∀ i, i < m → ob' i = ob i) → TI a o1 o2 o3 m c a.st a.ins a.outs ⟨ob', m + 1, c'⟩ := fun ob' c' k1 k2 => by
  have l1 := hO.l1; have l2 := hO.l2; have l3 := hO.l3
  simp only at l1 l2 l3
  exact ⟨⟨(k2 _ l1).trans hO.h1, (k2 _ l2).trans hO.h2, (k2 _ l3).trans hO.h3, hO.n12, hO.n13, hO.n23, by simp only; omega, by simp only; omega, by simp only; omega⟩, (k2 0 (by omega)).trans w0, (k2 1 (by omega)).trans w1, (k2 2 (by omega)).trans w2, k1, Nat.lt_succ_self _, ⟨g1, l1⟩, ⟨g2, l2⟩, ⟨g3, l3⟩⟩
 try simp (disch := omega) only [go_sem, jA, jB, jC, jD, jE, jF, jG, jH, jI, jJ, ↓reduceIte, reduceCtorEq, jO, jM, jN, jK, jL, acO]
 refine awp_upG [7, 24, 25, 26, 27, 28, 29, 30, 31, 32, 34, 35, 36, 37, 38, 39] (by kernel_rfl) 2 (fun k e σ => e 24 = .int .i64 k ∧ ∃ L, LK a n k L ∧ TI a o1 o2 o3 m c L a.ins a.outs σ) ?_ ?_
 ·refine ⟨(by first | rfl | (simp (disch := omega) only [go_sem, jA, jB, jC, jD, jE, jF, jG, jH, jI, jJ, ↓reduceIte, reduceCtorEq, jP, jO, jM, jN]; try rfl)), a.st, .inl ⟨rfl, rfl⟩, hT _ _ (by try simp (disch := omega) only [go_sem, jA, jB, jC, jD, jE, jF, jG, jH, jI, jJ, ↓reduceIte, reduceCtorEq, jO, jM, jN, jK, jL]; rfl) fun i hi => ?_⟩
  have : ¬ i = m := by omega
  try simp (disch := omega) only [go_sem, jA, jB, jC, jD, jE, jF, jG, jH, jI, jJ, ↓reduceIte, reduceCtorEq, jO, jM, jN, jK, jL, this]
 rintro k fe ob2 m2 c2 hk hm2 ⟨h24, L, hL, hTI⟩
 simp (maxSteps := 1000000) only [go_sem, jA, jB, jC, jD, jE, jF, jG, jH, jI, jJ, ↓reduceIte, reduceCtorEq, jP] at h24 hm2
 try simp (disch := omega) only [go_sem, jA, jB, jC, jD, jE, jF, jG, jH, jI, jJ, ↓reduceIte, reduceCtorEq, jO, jM, jN, jK, jL, h24]
 refine cond_d (fun hlt => ?_) (fun hge => ?_)
 ·have hk2 : k < 2 := by omega
  have hget : [AV.bool false, AV.bool true][k]? = some (.bool (decide (k = 1))) := by rcases (by omega : k = 0 ∨ k = 1) with rfl | rfl <;> rfl
  obtain ⟨hLl, hLf⟩ := hL.fit hlen
  have v0 := hTI.w0
  simp only at v0
  try simp (disch := omega) only [go_sem, jA, jB, jC, jD, jE, jF, jG, jH, jI, jJ, ↓reduceIte, reduceCtorEq, jO, jM, jN, jK, jL, h24, hget, v0, bds_length, hn]
  refine ⟨by omega, by omega, ?_⟩
  generalize hbk : decide (k = 1) = back at *
  refine (hc_ledger_steps _ (n : Int) back).mono ?_
  rintro _ τ ⟨rfl, hA3, hn3, t1, t2, c1, c2'⟩
  have hTI3 : TI a o1 o2 o3 m c L a.ins a.outs τ := by
   refine TI.as (hTI.as ⟨Nat.le_succ m2, fun i hi => ?_⟩) hA3
   simp only at hi
   have : ¬ i = m2 := by omega
   try simp (disch := omega) only [go_sem, jA, jB, jC, jD, jE, jF, jG, jH, jI, jJ, ↓reduceIte, reduceCtorEq, jO, jM, jN, jK, jL, this]
  have hbox := hA3.2 m2 (Nat.lt_succ_self _)
  obtain ⟨ob3, m3, c3⟩ := τ
  simp only at hn3 c1 c2' hbox
  try simp (disch := omega) only [go_sem, jA, jB, jC, jD, jE, jF, jG, jH, jI, jJ, ↓reduceIte, reduceCtorEq, jO, jM, jN, jK, jL]
  refine rangeK_i [.int .i64 n, .bool back] (stepsL n back) (it_steps n back (by omega))
   (fun pre σ1 => ∃ M, foldM (stpL a.ins a.outs back) L pre = some M ∧ M.length = n + 1 ∧ (∀ b ∈ M, fitB b) ∧ TI a o1 o2 o3 m c M a.ins a.outs σ1 ∧ m3 ≤ σ1.n ∧ (∀ i, m2 ≤ i → i < m2 + 3 → σ1.ob i = ob3 i) ∧ NoMap ⟨ob3, m3, c3⟩ σ1)
   (fun x pre σ1 => x = .ret ∧ foldM (stpL a.ins a.outs back) L pre = none ∧ σ1.ob 1 = some ⟨1, 4, 41, false, true, [.agg [.int .i64 0, .nil, .nil, .nil]]⟩ ∧ σ1.ob 2 = some ⟨2, 1, 44, false, true, [.int .i64 48]⟩ ∧ NoMap ⟨ob3, m3, c3⟩ σ1)
   ⟨L, rfl, hLl, hLf, hTI3, Nat.le_refl _, fun _ _ _ => rfl, NoMap.rfl' _⟩ ?_ ?_ ?_ ?_ ?_
  ·rintro pre σ1 ⟨M, _, _, _, _, _, hk3, hN⟩
   exact ⟨Caps.two ((hk3 _ (by omega) (by omega)).trans c1) ((hk3 _ (by omega) (by omega)).trans c2') rfl rfl, hN⟩
  ·rintro x pre σ1 _ ⟨_, _, _, _, hN⟩; exact hN
  ·rintro pre i ⟨ob4, m4, c4⟩ hi hlen' ⟨M, hM, hMl, hMf, hTM, hm4, hk3, hNM⟩
   obtain ⟨hi0, hin⟩ := stepsL_mem hi
   obtain ⟨q, rfl⟩ := Int.eq_ofNat_of_zero_le hi0
   simp only at hm4 hk3
   have hq : q < n := by omega
   have hb4 := (hk3 m2 (by omega) (by omega)).trans hbox
   try simp (disch := omega) only [go_sem, jA, jB, jC, jD, jE, jF, jG, jH, jI, jJ, ↓reduceIte, reduceCtorEq, jO, jM, jN, jK, jL, hb4]
   have hX := hlen.x
   have hY := hlen.y
   refine (hc_ledger_step _ m c _ _ _ _ o1 o2 o3 a.fr M a.ins a.outs q back (by rw [hTM.wm, hMl, ← hlen.s]) hTM.hm hTM.ac (by omega) (by omega) (by omega) (by omega) (gB_fit hMf (by omega)) (gB_fit hMf (by omega)) (hlen.gx hq) (hlen.gy hq)).mono ?_
   rintro _ ⟨ob5, m5, c5⟩ ⟨rfl, hP⟩
   have hT5 := hTM.put1 hP
   have hN5 := NoMap.put (NoMap.trunc hNM m4) hP (show ty_el_Bounds ≠ mapTy by decide) (Nat.le_refl m4)
   have hn5 : m4 ≤ m5 := hP.1
   have hsn : foldM (stpL a.ins a.outs back) L (pre ++ [(q : Int)]) = stpL a.ins a.outs back M q := by rw [foldM_snoc, hM]; rfl
   have h5 : ∀ i, m2 ≤ i → i < m2 + 3 → ob5 i = ob3 i := fun i h1 h2 => by
    have := hTM.g1; have := hTI.hm
    simp only at this
    exact (hP.2.2 i (by simp only; omega) (by omega)).trans (hk3 i h1 h2)
   cases hst : stpL a.ins a.outs back M q with
   | none =>
    have u1 := hT5.w1
    have u2 := hT5.w2
    simp only at u1 u2
    try simp (disch := omega) only [go_sem, jA, jB, jC, jD, jE, jF, jG, jH, jI, jJ, ↓reduceIte, reduceCtorEq, jO, jM, jN, jK, jL, Option.isSome, Bool.not_false, u1, u2]
    refine range_ret m4 hm4 ⟨rfl, by rw [hsn, hst], ?_, ?_, ?_⟩
    ·simp only [St.trunc]; rw [if_pos (by omega)]; simp [upd]
    ·simp only [St.trunc]; rw [if_pos (by omega)]; simp [upd]
    ·exact NoMap.upd (NoMap.upd hN5 (by decide)) (by decide)
   | some M2 =>
    rw [hst] at hT5
    simp only [Option.getD_some] at hT5
    try simp (disch := omega) only [go_sem, jA, jB, jC, jD, jE, jF, jG, jH, jI, jJ, ↓reduceIte, reduceCtorEq, jO, jM, jN, jK, jL, Option.isSome, Bool.not_true]
    have hm5 := hTI.hm
    simp only at hm5
    have hmm := hTM.hm
    simp only at hmm
    refine range_next m4 hm4 ⟨M2, by rw [hsn, hst], by rw [stpL_length hst, hMl], stpL_fit hMf (by omega) hst, hT5.trunc (by omega), by simp only [St.trunc]; omega, fun i h1 h2 => ?_, hN5⟩
    simp only [St.trunc]
    rw [if_pos (by omega)]
    exact h5 i h1 h2
  ·rintro ⟨ob4, m4, c4⟩ ⟨M, hM, hMl, hMf, hTM, hm4, hk3, hNM⟩
   simp only at hm4
   try simp (disch := omega) only [go_sem, jA, jB, jC, jD, jE, jF, jG, jH, jI, jJ, ↓reduceIte, reduceCtorEq, jO, jM, jN, jK, jL, h24]
   have hm5 := hTI.hm
   simp only at hm5
   subst hbk
   refine up_nextG m4 hk2 (by omega) ⟨(by first | rfl | (simp (disch := omega) only [go_sem, jA, jB, jC, jD, jE, jF, jG, jH, jI, jJ, ↓reduceIte, reduceCtorEq, jP, jO, jM, jN]; try rfl)), M, hL.next hlen hk2 hM, hTM.trunc (by omega)⟩
  ·rintro x pre ⟨ob4, m4, c4⟩ hx hp ⟨rfl, hM, r1, r2, _⟩
   simp only at r1 r2
   subst hbk
   have hbad := hL.bad hlen hk2 hp hM
   try simp (disch := omega) only [go_sem, jA, jB, jC, jD, jE, jF, jG, jH, jI, jJ, ↓reduceIte, reduceCtorEq, jO, jM, jN, jK, jL, r1, r2]
   refine no ?_
   rw [htS, if_neg (by rw [vdB_iff]; exact hbad)]
 ·have : k = 2 := by omega
  subst this
  obtain ⟨hv, rfl⟩ : VD a.st a.ins a.outs n ∧ L = mkL (n + 1) (cB a.st a.ins a.outs n) := by
   rcases hL with ⟨h, _⟩ | ⟨h, _⟩ | ⟨_, h⟩
   ·omega
   ·omega
   ·exact h
  have v0 := hTI.w0
  simp only at v0
  try simp (disch := omega) only [go_sem, jA, jB, jC, jD, jE, jF, jG, jH, jI, jJ, ↓reduceIte, reduceCtorEq, jO, jM, jN, jK, jL, v0, bds_length, hn]
  refine (hc_ledger_steps _ (n : Int) false).mono ?_
  rintro _ τ ⟨rfl, hA3, hn3, t1, t2, c1, c2'⟩
  have hTI3 := hTI.as hA3
  obtain ⟨ob3, m3, c3⟩ := τ
  simp only at hn3 c1 c2'
  have hm5 := hTI.hm
  simp only at hm5
  try simp (disch := omega) only [go_sem, jA, jB, jC, jD, jE, jF, jG, jH, jI, jJ, ↓reduceIte, reduceCtorEq, jO, jM, jN, jK, jL]
  refine rangeK_i [.int .i64 n, .bool false] (stepsL n false) (it_steps n false (by omega))
   (fun pre σ1 => ∃ M N, foldM (stpF (mkL (n + 1) (cB a.st a.ins a.outs n)) a.ins a.outs) (a.ins, a.outs) pre = some (M, N) ∧ M.length = n ∧ N.length = n ∧ TI a o1 o2 o3 m c (mkL (n + 1) (cB a.st a.ins a.outs n)) M N σ1 ∧ m3 ≤ σ1.n ∧ (∀ i, m2 ≤ i → i < m2 + 2 → σ1.ob i = ob3 i) ∧ NoMap ⟨ob3, m3, c3⟩ σ1)
   (fun x pre σ1 => x = .ret ∧ foldM (stpF (mkL (n + 1) (cB a.st a.ins a.outs n)) a.ins a.outs) (a.ins, a.outs) pre = none ∧ NoMap ⟨ob3, m3, c3⟩ σ1)
   ⟨a.ins, a.outs, rfl, hn, hlen.y, hTI3, Nat.le_refl _, fun _ _ _ => rfl, NoMap.rfl' _⟩ ?_ ?_ ?_ ?_ ?_
  ·rintro pre σ1 ⟨M, N, _, _, _, _, _, hk3, hN⟩
   exact ⟨Caps.two ((hk3 _ (by omega) (by omega)).trans c1) ((hk3 _ (by omega) (by omega)).trans c2') rfl rfl, hN⟩
  ·rintro x pre σ1 _ ⟨_, _, hN⟩; exact hN
  ·rintro pre i ⟨ob4, m4, c4⟩ hi hlen' ⟨M, N, hM, hMl, hNl, hTM, hm4, hk3, hNM⟩
   obtain ⟨hi0, hin⟩ := stepsL_mem hi
   obtain ⟨q, rfl⟩ := Int.eq_ofNat_of_zero_le hi0
   simp only at hm4 hk3
   have hq : q < n := by omega
   have vm := hTM.wm
   have v0 := hTM.w0
   obtain ⟨w1', w2', w3', n12, n13, n23, l1, l2, l3⟩ := hTM.ac
   simp only [acO] at vm v0 w1' w2' w3' l1 l2 l3
   have hX := hlen.x
   have hY := hlen.y
   have e1 := gB_get (L := mkL (n + 1) (cB a.st a.ins a.outs n)) (i := q) (by rw [mkL_length]; omega)
   have e2 := gB_get (L := mkL (n + 1) (cB a.st a.ins a.outs n)) (i := q + 1) (by rw [mkL_length]; omega)
   have e3 := gB_get (L := a.ins) (i := q) (by omega)
   have e4 := gB_get (L := a.outs) (i := q) (by omega)
   have e5 := gB_get (L := M) (i := q) (by omega)
   have e6 := gB_get (L := N) (i := q) (by omega)
   have f1 : fitB (gB (mkL (n + 1) (cB a.st a.ins a.outs n)) q) := by rw [gB_mk _ (by omega)]; exact cB_fit hlen hv (by omega)
   have f2 : fitB (gB (mkL (n + 1) (cB a.st a.ins a.outs n)) (q + 1)) := by rw [gB_mk _ (by omega)]; exact cB_fit hlen hv (by omega)
   have f3 := hlen.gx hq
   have f4 := hlen.gy hq
   have hsn : foldM (stpF (mkL (n + 1) (cB a.st a.ins a.outs n)) a.ins a.outs) (a.ins, a.outs) (pre ++ [(q : Int)]) = stpF (mkL (n + 1) (cB a.st a.ins a.outs n)) a.ins a.outs (M, N) q := by rw [foldM_snoc, hM]; rfl
   have hst : stpF (mkL (n + 1) (cB a.st a.ins a.outs n)) a.ins a.outs (M, N) q = match narB (gB M q) (inF (gB (mkL (n + 1) (cB a.st a.ins a.outs n)) q) (gB (mkL (n + 1) (cB a.st a.ins a.outs n)) (q + 1)) (gB a.outs q)), narB (gB N q) (outF (gB (mkL (n + 1) (cB a.st a.ins a.outs n)) q) (gB (mkL (n + 1) (cB a.st a.ins a.outs n)) (q + 1)) (gB a.ins q)) with
    | some u, some v => some (M.set q u, N.set q v)
    | _, _ => none := rfl
   rw [hst] at hsn
   generalize gB (mkL (n + 1) (cB a.st a.ins a.outs n)) q = s at *
   generalize gB (mkL (n + 1) (cB a.st a.ins a.outs n)) (q + 1) = t at *
   generalize gB a.ins q = x at *
   generalize gB a.outs q = y at *
   have f1 := fit_bd f1
   have f2 := fit_bd f2
   have f3 := fit_bd f3
   have f4 := fit_bd f4
   have hLs := hlen.s
   have hiq : ((q : Int) + 1).toNat = q + 1 := by omega
   try simp (maxSteps := 500001) (disch := omega) only [go_sem, jA, jB, jC, jD, jE, jF, jG, jH, jI, jJ, ↓reduceIte, reduceCtorEq, jO, jM, jN, jK, jL, vm, v0, w1', w2', w3', bds_get, bds_length, e1, e2, e3, e4, hiq, mkL_length, Option.map_some, bdv, hLs, hX, hY]
   refine ⟨by omega, by omega, by omega, by omega, by omega, by omega, by omega, by omega, by omega, by omega, ?_⟩
   have y1 : ¬ o2.1 = m4 := by omega
   have y2 : ¬ o2.1 = m4 + 1 := by omega
   have y3 : ¬ o2.1 = m4 + 1 + 1 := by omega
   have y4 : ¬ o2.1 = m4 + 1 + 1 + 1 := by omega
   refine (hc_ledger_narrow _ o2.1 o2.2 q ty_el_Bounds M (gB M q) (inF s t y) (by try simp (disch := omega) only [go_sem, jA, jB, jC, jD, jE, jF, jG, jH, jI, jJ, ↓reduceIte, reduceCtorEq, jO, jM, jN, jK, jL, y1, y2, y3, y4]; exact w2') e5 (by simp only; omega)).mono ?_
   rintro _ ⟨ob5, m5, c5⟩ ⟨rfl, k1, k2, k3⟩
   simp only at k1 k2 k3
   have hP : PutO ⟨ob4, m4, c4⟩ o2.1 ⟨o2.2, 2, ty_el_Bounds, false, true, bds (M.set q ((narB (gB M q) (inF s t y)).getD (gB M q)))⟩ ⟨ob5, m5, c5⟩ := by
    refine ⟨by simp only; omega, k2, fun k hk hk2 => (k3 k (by simp only at hk; omega) hk2).trans ?_⟩
    simp only at hk
    rw [upd_ne _ _ _ _ (by omega), upd_ne _ _ _ _ (by omega), upd_ne _ _ _ _ (by omega), upd_ne _ _ _ _ (by omega), upd_ne _ _ _ _ (by omega), upd_ne _ _ _ _ (by omega), upd_ne _ _ _ _ (by omega), upd_ne _ _ _ _ (by omega)]
   have hT4 := hTM.put2 hP
   have hN4 := NoMap.put (NoMap.trunc hNM m4) hP (show ty_el_Bounds ≠ mapTy by decide) (Nat.le_refl m4)
   have hmm := hTM.hm
   simp only at hmm
   have b0 := k3 m4 (by omega) (by omega)
   have b1 := k3 (m4 + 1) (by omega) (by omega)
   have b2 := k3 (m4 + 1 + 1) (by omega) (by omega)
   have b3 := k3 (m4 + 1 + 1 + 1) (by omega) (by omega)
   try simp (disch := omega) only [go_sem, jA, jB, jC, jD, jE, jF, jG, jH, jI, jJ, ↓reduceIte, reduceCtorEq, jO, jM, jN, jK, jL] at b0
   try simp (disch := omega) only [go_sem, jA, jB, jC, jD, jE, jF, jG, jH, jI, jJ, ↓reduceIte, reduceCtorEq, jO, jM, jN, jK, jL] at b1
   try simp (disch := omega) only [go_sem, jA, jB, jC, jD, jE, jF, jG, jH, jI, jJ, ↓reduceIte, reduceCtorEq, jO, jM, jN, jK, jL] at b2
   try simp (disch := omega) only [go_sem, jA, jB, jC, jD, jE, jF, jG, jH, jI, jJ, ↓reduceIte, reduceCtorEq, jO, jM, jN, jK, jL] at b3
   have u1 := hT4.w1
   have u2 := hT4.w2
   have um := hT4.wm
   have uo := hT4.ac.h3
   simp only [acO] at u1 u2 um uo
   cases hnx : narB (gB M q) (inF s t y) with
   | none =>
    rw [hnx] at hsn
    try simp (maxSteps := 500001) (disch := omega) only [go_sem, jA, jB, jC, jD, jE, jF, jG, jH, jI, jJ, ↓reduceIte, reduceCtorEq, jO, jM, jN, jK, jL, Option.isSome, Bool.not_false, b0, b1, b2, b3, u1, u2, um, uo]
    exact range_ret m4 hm4 ⟨rfl, hsn, NoMap.upd (NoMap.upd hN4 (by decide)) (by decide)⟩
   | some u =>
    rw [hnx] at hsn hT4
    simp only [Option.getD_some] at hT4
    try simp (maxSteps := 500001) (disch := omega) only [go_sem, jA, jB, jC, jD, jE, jF, jG, jH, jI, jJ, ↓reduceIte, reduceCtorEq, jO, jM, jN, jK, jL, Option.isSome, Bool.not_true, b0, b1, b2, b3, u1, u2, um, uo]
    refine ⟨by omega, by omega, ?_⟩
    refine (hc_ledger_narrow _ o3.1 o3.2 q ty_el_Bounds N (gB N q) (outF s t x) uo e6 (by simp only; omega)).mono ?_
    rintro _ ⟨ob6, m6, c6⟩ ⟨rfl, hP6⟩
    have hT6 := hT4.put3 hP6
    have hN6 := NoMap.put hN4 hP6 (show ty_el_Bounds ≠ mapTy by decide) (by simp only; omega)
    have hn6 : m5 ≤ m6 := hP6.1
    have x1 := hT6.w1
    have x2 := hT6.w2
    simp only at x1 x2
    cases hny : narB (gB N q) (outF s t x) with
    | none =>
     rw [hny] at hsn
     try simp (disch := omega) only [go_sem, jA, jB, jC, jD, jE, jF, jG, jH, jI, jJ, ↓reduceIte, reduceCtorEq, jO, jM, jN, jK, jL, Option.isSome, Bool.not_false, x1, x2]
     exact range_ret m4 hm4 ⟨rfl, hsn, NoMap.upd (NoMap.upd hN6 (by decide)) (by decide)⟩
    | some v =>
     rw [hny] at hsn hT6
     simp only [Option.getD_some] at hT6
     try simp (disch := omega) only [go_sem, jA, jB, jC, jD, jE, jF, jG, jH, jI, jJ, ↓reduceIte, reduceCtorEq, jO, jM, jN, jK, jL, Option.isSome, Bool.not_true]
     refine range_next m4 hm4 ⟨M.set q u, N.set q v, hsn, by simp [hMl], by simp [hNl], hT6.trunc (by omega), by simp only [St.trunc]; omega, fun i h1 h2 => ?_, hN6⟩
     simp only [St.trunc]
     have gg2 := hTI.g2
     have gg3 := hTI.g3
     rw [if_pos (by omega)]
     exact (hP6.2.2 i (by simp only; omega) (by omega)).trans ((hP.2.2 i (by simp only; omega) (by omega)).trans (hk3 i h1 h2))
  ·rintro ⟨ob4, m4, c4⟩ ⟨M, N, hM, hMl, hNl, hTM, hm4, hk3, hNM⟩
   have hX := fold_X hlen hv n (Nat.le_refl _)
   rw [List.take_of_length_le (by rw [stepsL_length]; exact Nat.le_refl _), hM] at hX
   obtain ⟨rfl, rfl⟩ := Prod.mk.inj (Option.some.inj hX)
   have r1 := hTM.w1
   have r2 := hTM.w2
   have rm := hTM.wm
   simp only [acO] at r1 r2 rm
   have hm1 : ¬ m = 1 := by omega
   have hm2' : ¬ m = 2 := by omega
   try simp (disch := omega) only [go_sem, jA, jB, jC, jD, jE, jF, jG, jH, jI, jJ, ↓reduceIte, reduceCtorEq, jO, jM, jN, jK, jL, r1, r2, rm]
   rw [htS, if_pos (vdB_iff.2 hv)]
   have gg1 := hTI.g1
   have gg2 := hTI.g2
   have gg3 := hTI.g3
   have p1 := hTM.ac.h1
   have p2 := hTM.ac.h2
   have p3 := hTM.ac.h3
   simp only at p1 p2 p3
   have ne : ∀ i, 3 ≤ i → ∀ A B, upd (upd ob4 1 A) 2 B i = ob4 i := fun i hi A B => by rw [upd_ne _ _ _ _ (by omega), upd_ne _ _ _ _ (by omega)]
   refine Pub.pair (Pub.ag (.cons (.pure rfl) (.cons ?_ (.cons ?_ (.cons ?_ .nil))))) (.pure rfl)
   ·rw [show (tgt a, (0 : Int)).1.st = mkL (n + 1) (cB a.st a.ins a.outs n) by simp only [tgt, hn]]
    refine pub_bds ((ne _ gg1.1 _ _).trans p1) ?_
    rw [mkL_length]; exact hlen.s
   ·rw [show (tgt a, (0 : Int)).1.ins = mkL n (cX a.st a.ins a.outs n) by simp only [tgt, hn], ← atX_end]
    refine pub_bds ((ne _ gg2.1 _ _).trans p2) ?_
    rw [atX_end, mkL_length]; exact hn
   ·rw [show (tgt a, (0 : Int)).1.outs = mkL n (cY a.st a.ins a.outs n) by simp only [tgt, hn], ← atY_end]
    refine pub_bds ((ne _ gg3.1 _ _).trans p3) ?_
    rw [atY_end, mkL_length]; exact hlen.y
  ·rintro x pre ⟨ob4, m4, c4⟩ hx hp ⟨rfl, hM, _⟩
   have hX := fold_X hlen hv n (Nat.le_refl _)
   rw [List.take_of_length_le (by rw [stepsL_length]; exact Nat.le_refl _), foldM_none _ hp hM] at hX
   cases hX
theorem hc_ref30_Copy (σ : St) (a : Ac) (h1 : a.st.length ≤ 4611686018427) (h2 : a.ins.length ≤ 4611686018427) (h3 : a.outs.length ≤ 4611686018427) (e1 : a.st ≠ []) (e2 : a.ins ≠ []) (e3 : a.outs ≠ []) : HC prog n_ref30_Copy [acv a] σ (Twin σ a 35) := by
 obtain ⟨ob, n, c⟩ := σ
 refine HC_of_body b_ref30_Copy (by simp) ?_
 simp only [c_ref30_Copy, go_sem, jA, jB, jC, jD, jE, jF, jG, jH, jI, jJ, ↓reduceIte, reduceCtorEq, jP, acv]
 have b1 : bds a.st ≠ [] := by simpa [bds] using e1
 have b2 : bds a.ins ≠ [] := by simpa [bds] using e2
 have b3 : bds a.outs ≠ [] := by simpa [bds] using e3
 have l1 : (bds a.st).length = a.st.length := bds_length _
 have l2 : (bds a.ins).length = a.ins.length := bds_length _
 have l3 : (bds a.outs).length = a.outs.length := bds_length _
 try simp (disch := omega) only [go_sem, jA, jB, jC, jD, jE, jF, jG, jH, jI, jJ, ↓reduceIte, reduceCtorEq, jO, jM, jN, jK, jL]
 refine ⟨fun _ _ h => (by cases h; rfl), fun _ _ _ _ _ h => (by rcases h with h | ⟨_, h⟩ <;> cases h), by rw [mxL]; omega, by omega, fun h => absurd h b1, fun _ => ?_⟩
 try simp (disch := omega) only [go_sem, jA, jB, jC, jD, jE, jF, jG, jH, jI, jJ, ↓reduceIte, reduceCtorEq, jO, jM, jN, jK, jL]
 refine ⟨fun _ _ h => (by cases h; rfl), fun _ _ _ _ _ h => (by rcases h with h | ⟨_, h⟩ <;> cases h), by rw [mxL]; omega, by omega, fun h => absurd h b2, fun _ => ?_⟩
 try simp (disch := omega) only [go_sem, jA, jB, jC, jD, jE, jF, jG, jH, jI, jJ, ↓reduceIte, reduceCtorEq, jO, jM, jN, jK, jL]
 refine ⟨fun _ _ h => (by cases h; rfl), fun _ _ _ _ _ h => (by rcases h with h | ⟨_, h⟩ <;> cases h), by rw [mxL]; omega, by omega, fun h => absurd h b3, fun _ => ?_⟩
 try simp (disch := omega) only [go_sem, jA, jB, jC, jD, jE, jF, jG, jH, jI, jJ, ↓reduceIte, reduceCtorEq, jO, jM, jN, jK, jL]
 refine ⟨(n + 1 + 1, c + 1 + 1), (n + 1 + 1 + 1, c + 1 + 1 + 1), (n + 1 + 1 + 1 + 1, c + 1 + 1 + 1 + 1), ?_⟩
 have d1 : ¬ n + 1 + 1 = n := by omega
 have d2 : ¬ n + 1 + 1 + 1 = n := by omega
 have d3 : ¬ n + 1 + 1 + 1 + 1 = n := by omega
 refine ⟨by simp only [acO, l1, l2, l3], ⟨by simp [upd, d1, d2, d3], by simp [upd, d1, d2, d3], by simp [upd, d1, d2, d3], by simp only; omega, by simp only; omega, by simp only; omega, by simp only; omega, by simp only; omega, by simp only; omega⟩, by simp only; omega, by simp only; omega, by simp only; omega, by simp only; omega, fun k hk => ?_⟩
 simp only at hk
 have y0 : ¬ k = n := by omega
 have y1 : ¬ k = n + 1 := by omega
 have y2 : ¬ k = n + 1 + 1 := by omega
 have y3 : ¬ k = n + 1 + 1 + 1 := by omega
 have y4 : ¬ k = n + 1 + 1 + 1 + 1 := by omega
 try simp (disch := omega) only [go_sem, jA, jB, jC, jD, jE, jF, jG, jH, jI, jJ, ↓reduceIte, reduceCtorEq, jO, jM, jN, jK, jL, y0, y1, y2, y3, y4]
theorem bds_set (L : List Bd) (i : Nat) (b : Bd) : (bds L).set i (bdv b) = bds (L.set i b) := by simp [bds, List.map_set]
def sameA (a b : Ac) : Bool := decide (a.fr = b.fr) && (decide (a.st = b.st) && (decide (a.ins = b.ins) && decide (a.outs = b.outs)))
theorem sameA_iff {a b : Ac} : sameA a b = true ↔ a = b := by
 cases a; cases b
 simp [sameA]
theorem bd_eq {b c : Bd} : b = c ↔ b.lo = c.lo ∧ b.hi = c.hi := by
 cases b; cases c; simp
theorem ok_slices_Equal__Bounds (a b : List Bd) (ha : a.length ≤ 9223372036854775807) : PC prog n_slices_Equal__Bounds [.list 2 (bds a), .list 2 (bds b)] (.bool (decide (a = b))) := by
 refine PC_of_body b_slices_Equal__Bounds (by simp) ?_
 simp only [c_slices_Equal__Bounds, go_sem, jA, jB, jC, jD, jE, jF, jG, jH, jI, jJ, ↓reduceIte, reduceCtorEq, jP, bds_length]
 refine cond_n (fun h => ?_) (fun h => ?_) <;> try simp (disch := omega) only [go_sem, jA, jB, jC, jD, jE, jF, jG, jH, jI, jJ, ↓reduceIte, reduceCtorEq, jO, jM, jN, jK, jL]
 ·exact Pub.of_eq (by congr 1; simp; intro hab; exact h (by rw [hab])) rfl
 have hl : a.length = b.length := by omega
 refine awp_upF [4, 5, 13, 14, 15, 16, 17, 18, 19, 20, 21, 22, 23, 24, 25] (by kernel_rfl) a.length (fun k e _ => e 13 = .int .i64 k ∧ ∀ j, j < k → a[j]? = b[j]?) ?_ ?_
 ·exact ⟨(by first | rfl | (simp (disch := omega) only [go_sem, jA, jB, jC, jD, jE, jF, jG, jH, jI, jJ, ↓reduceIte, reduceCtorEq, jP, jO, jM, jN]; try rfl)), fun j hj => by omega⟩
 ·rintro k fe ob c hk ⟨h13, hj⟩
  simp (maxSteps := 1000000) only [go_sem, jA, jB, jC, jD, jE, jF, jG, jH, jI, jJ, ↓reduceIte, reduceCtorEq, jP] at h13
  try simp (disch := omega) only [go_sem, jA, jB, jC, jD, jE, jF, jG, jH, jI, jJ, ↓reduceIte, reduceCtorEq, jO, jM, jN, jK, jL, h13, bds_length]
  refine cond_d (fun hlt => ?_) (fun hge => ?_)
  ·have hka : k < a.length := by omega
   have hga : a[k]? = some a[k] := List.getElem?_eq_getElem hka
   have hgb : b[k]? = some b[k] := List.getElem?_eq_getElem (by omega)
   try simp (disch := omega) only [go_sem, jA, jB, jC, jD, jE, jF, jG, jH, jI, jJ, ↓reduceIte, reduceCtorEq, jO, jM, jN, jK, jL, h13, bds_length, bds_get, hga, hgb, Option.map_some, bdv]
   repeat (refine And.intro (by first | omega | (rw [mxL]; omega) | (simp [maxLen]; done) | (simp [maxLen]; omega)) ?_)
   refine ⟨fun hne => ?_, fun heq => ?_⟩
   ·try simp (disch := omega) only [go_sem, jA, jB, jC, jD, jE, jF, jG, jH, jI, jJ, ↓reduceIte, reduceCtorEq, jO, jM, jN, jK, jL]
    exact Pub.of_eq (by congr 1; simp; intro hab; subst hab; simp at hne) rfl
   ·try simp (disch := omega) only [go_sem, jA, jB, jC, jD, jE, jF, jG, jH, jI, jJ, ↓reduceIte, reduceCtorEq, jO, jM, jN, jK, jL, h13]
    refine up_next hka ⟨(by first | rfl | (simp (disch := omega) only [go_sem, jA, jB, jC, jD, jE, jF, jG, jH, jI, jJ, ↓reduceIte, reduceCtorEq, jP, jO, jM, jN]; try rfl)), fun j hj' => ?_⟩
    by_cases e : j = k
    ·have he : a[k] = b[k] := bd_eq.2 (by simpa using heq)
     subst e; rw [hga, hgb, he]
    ·exact hj j (by omega)
  ·try simp (disch := omega) only [go_sem, jA, jB, jC, jD, jE, jF, jG, jH, jI, jJ, ↓reduceIte, reduceCtorEq, jO, jM, jN, jK, jL]
   exact Pub.of_eq (by congr 1; simp; exact eq_of_get hl fun j hj' => hj j (by omega)) rfl
theorem ok_ledger_Same (a b : Ac) (hl : AcL a) : PC prog n_ledger_Same [acv a, acv b] (.bool (sameA a b)) := by
 refine PC_of_body b_ledger_Same (by simp) ?_
 simp only [c_ledger_Same, go_sem, jA, jB, jC, jD, jE, jF, jG, jH, jI, jJ, ↓reduceIte, reduceCtorEq, jP, acv]
 refine gd_td rfl (fun h1 => ?_) (fun h1 => ?_) <;> try simp (disch := omega) only [go_sem, jA, jB, jC, jD, jE, jF, jG, jH, jI, jJ, ↓reduceIte, reduceCtorEq, jO, jM, jN, jK, jL]
 ·refine call_pc (ok_slices_Equal__Bounds a.st b.st hl.1) (by simp [go_sem, bds_pur]) ?_
  try simp (disch := omega) only [go_sem, jA, jB, jC, jD, jE, jF, jG, jH, jI, jJ, ↓reduceIte, reduceCtorEq, jO, jM, jN, jK, jL]
  refine gd_td rfl (fun h2 => ?_) (fun h2 => ?_) <;> try simp (disch := omega) only [go_sem, jA, jB, jC, jD, jE, jF, jG, jH, jI, jJ, ↓reduceIte, reduceCtorEq, jO, jM, jN, jK, jL]
  ·refine call_pc (ok_slices_Equal__Bounds a.ins b.ins hl.2.1) (by simp [go_sem, bds_pur]) ?_
   try simp (disch := omega) only [go_sem, jA, jB, jC, jD, jE, jF, jG, jH, jI, jJ, ↓reduceIte, reduceCtorEq, jO, jM, jN, jK, jL]
   refine gd_td rfl (fun h3 => ?_) (fun h3 => ?_) <;> try simp (disch := omega) only [go_sem, jA, jB, jC, jD, jE, jF, jG, jH, jI, jJ, ↓reduceIte, reduceCtorEq, jO, jM, jN, jK, jL]
   ·refine call_pc (ok_slices_Equal__Bounds a.outs b.outs hl.2.2) (by simp [go_sem, bds_pur]) ?_
    try simp (disch := omega) only [go_sem, jA, jB, jC, jD, jE, jF, jG, jH, jI, jJ, ↓reduceIte, reduceCtorEq, jO, jM, jN, jK, jL]
    exact Pub.of_eq (by simp [sameA, h1, h2, h3]) rfl
   ·exact Pub.of_eq (by simp [sameA, h3]) rfl
  ·exact Pub.of_eq (by simp [sameA, h2]) rfl
 ·exact Pub.of_eq (by simp [sameA, h1]) rfl
end Go.Proofs.Try
