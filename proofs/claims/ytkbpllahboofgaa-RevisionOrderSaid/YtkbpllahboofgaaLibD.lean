/- OWN WORK, put together by tools/asm.py, seat.py, mini.py. -/
import Derived.Test.YtkbpllahboofgaaLibC
set_option linter.unusedSimpArgs false
set_option linter.unusedVariables false
set_option maxRecDepth 100000
set_option maxHeartbeats 1000000
namespace Go.Proofs.Try
open Go.Ab Go
open Int renaming reduceEq → jA, reduceLT → jB, reduceLE → jC, reduceToNat → jD
open Go.Ab renaming w_ite_ne → jM, w_ite_lt → jN, wrap_id → jO, w_app_nl → jP
open Nat renaming reduceLT → jE, reduceEqDiff → jF, reduceAdd → jG, reduceLeDiff → jH, reduceSub → jI, reduceMul → jJ, sub_zero → jK, sub_self → jL
theorem HiA.vd {a : Ac} {s x y : Nat → Int} (h : HiA a a.ins.length s x y) : VD a.st a.ins a.outs a.ins.length := fun i hi => (Hi.vd h).f i hi
section
variable {a : Ac} (h : AcOK a) (hv : VD a.st a.ins a.outs a.ins.length)
include h hv
end
theorem setL_l {a : Ac} (h : AcL a) {f : Nat} {l : List Bd} (hl : l.length ≤ 9223372036854775807) : AcL (setL a f l) := by
 unfold setL
 split
 ·exact ⟨hl, h.2.1, h.2.2⟩
 ·split
  ·exact ⟨h.1, hl, h.2.2⟩
  ·exact ⟨h.1, h.2.1, hl⟩
theorem fldL_l {a : Ac} (h : AcL a) (f : Nat) : (fldL a f).length ≤ 9223372036854775807 := by
 unfold fldL
 split
 ·exact h.1
 ·split
  ·exact h.2.1
  ·exact h.2.2
theorem fixS_l {a : Ac} (h : AcL a) (f t : Int) (b : Bd) : AcL (fixS a f t b).1 := by
 have hz : AcL acZ := by simp [acZ, AcL]
 unfold fixS
 split
 ·exact hz
 ·split
  ·exact hz
  ·split
   ·exact hz
   ·split
    ·exact hz
    ·exact setL_l h (by rw [List.length_set]; exact fldL_l h _)
structure Rp where
 nu : Int
 ac : Int
 fd : Int
 tm : Int
 b : Bd
 deriving DecidableEq, Inhabited
structure Bk where
 op : List Ac
 rp : List Rp
def rpv (r : Rp) : AV := .agg [.int .i64 r.nu, .int .i64 r.ac, .int .i64 r.fd, .int .i64 r.tm, .int .i64 r.b.lo, .int .i64 r.b.hi]
def rps (l : List Rp) : List AV := l.map rpv
def acs (l : List Ac) : List AV := l.map acv
theorem rps_length (l : List Rp) : (rps l).length = l.length := by simp [rps]
theorem rps_get (l : List Rp) (i : Nat) : (rps l)[i]? = (l[i]?).map rpv := by simp [rps]
theorem rps_pur (l : List Rp) : ∀ x ∈ rps l, x.pur = true := by simp [rps, rpv, go_sem]
theorem rps_ok (l : List Rp) : ∀ x ∈ rps l, okE 6 x := by simp [rps, rpv, okE, go_sem]
theorem acs_length (l : List Ac) : (acs l).length = l.length := by simp [acs]
theorem acs_get (l : List Ac) (i : Nat) : (acs l)[i]? = (l[i]?).map acv := by simp [acs]
theorem acs_pur (l : List Ac) : ∀ x ∈ acs l, x.pur = true := by
 intro x hx
 obtain ⟨a, _, rfl⟩ := List.mem_map.1 hx
 exact acv_pur a
theorem acs_ok (l : List Ac) : ∀ x ∈ acs l, okE 4 x := by simp [acs, acv, okE, go_sem]
def bkv (B : Bk) : AV := .agg [.list 4 (acs B.op), .list 6 (rps B.rp)]
def gA (l : List Ac) (i : Nat) : Ac := (l[i]?).getD acZ
def gR (l : List Rp) (i : Nat) : Rp := l.getD i default
theorem gA_get {l : List Ac} {i : Nat} (h : i < l.length) : l[i]? = some (gA l i) := by simp [gA, h]
theorem gR_get {l : List Rp} {i : Nat} (h : i < l.length) : l[i]? = some (gR l i) := by simp [gR, List.getD_eq_getElem?_getD, h]
structure RpA (a : Ac) (r : Rp) : Prop where
 fd : r.fd = 1 ∨ r.fd = 2 ∨ r.fd = 3
 t0 : a.fr ≤ r.tm
 t1 : r.tm < a.fr + ((fldL a r.fd.toNat).length : Int)
 b : fitB r.b
structure RpOK (op : List Ac) (r : Rp) : Prop where
 n1 : 1 ≤ r.nu
 n2 : r.nu ≤ 1073741824
 a0 : 0 ≤ r.ac
 a1 : r.ac < op.length
 a : RpA (gA op r.ac.toNat) r
structure BkOK (B : Bk) : Prop where
 n : B.op.length ≤ 16
 ao : ∀ a ∈ B.op, AcOK a
 m : B.rp.length ≤ 4096
 asc : B.rp.Pairwise fun a b => a.nu < b.nu
 ro : ∀ r ∈ B.rp, RpOK B.op r
def RpH (a : Ac) (r : Rp) (s x y : Nat → Int) : Prop := inB r.b (nth3 r.fd.toNat s x y (r.tm - a.fr).toNat)
theorem fld_len {a : Ac} (h : AcOK a) {f : Int} (hf : f = 1 ∨ f = 2 ∨ f = 3) : ((fldL a f.toNat).length : Int) = if f = 1 then (a.ins.length : Int) + 1 else a.ins.length := by
 have h1 := h.ns
 have h2 := h.no
 rcases hf with rfl | rfl | rfl <;> simp [fldL] <;> omega
theorem BkOK.acc {B : Bk} (h : BkOK B) {i : Nat} (hi : i < B.op.length) : AcOK (gA B.op i) := h.ao _ (List.mem_of_getElem? (gA_get hi))
theorem bkv_pur (B : Bk) : (bkv B).pur = true := by simp [bkv, go_sem, acs_pur, rps_pur]
def curL (i : Int) : List Rp → Ac → Ac × Int × Int
 | [], a => (a, 0, 0)
 | r :: l, a => if r.ac = i then (if (fixS a r.fd r.tm r.b).2 = 0 then curL i l (fixS a r.fd r.tm r.b).1 else (acZ, r.nu, 48)) else curL i l a
abbrev nus (l : List Rp) : List Int := l.map Rp.nu
theorem nus_get {l : List Rp} {i : Nat} {x : Int} : (nus l)[i]? = some x ↔ ∃ r, l[i]? = some r ∧ r.nu = x := by
 rw [List.getElem?_map]
 cases l[i]? <;> simp
theorem pw_get {l : List Rp} (h : l.Pairwise fun a b => a.nu < b.nu) {i j : Nat} (hij : i < j) {x y : Rp} (hx : l[i]? = some x) (hy : l[j]? = some y) : x.nu < y.nu := by
 obtain ⟨h1, rfl⟩ := List.getElem?_eq_some_iff.1 hx
 obtain ⟨h2, rfl⟩ := List.getElem?_eq_some_iff.1 hy
 exact List.pairwise_iff_getElem.1 h i j h1 h2 hij
theorem pw_asc {l : List Rp} (h : l.Pairwise fun a b => a.nu < b.nu) : Asc (nus l) := fun i j hij x y hx hy => by
 obtain ⟨a, ha, rfl⟩ := nus_get.1 hx
 obtain ⟨b, hb, rfl⟩ := nus_get.1 hy
 exact Int.le_of_lt (pw_get h hij ha hb)
theorem pw_ext : ∀ {l m : List Rp}, (l.Pairwise fun a b => a.nu < b.nu) → (m.Pairwise fun a b => a.nu < b.nu) → (∀ r, r ∈ l ↔ r ∈ m) → l = m
 | [], [], _, _, _ => rfl
 | [], y :: m, _, _, h => by have := (h y).2 (by simp); simp at this
 | x :: l, [], _, _, h => by have := (h x).1 (by simp); simp at this
 | x :: l, y :: m, hl, hm, h => by
  rw [List.pairwise_cons] at hl hm
  have e : x = y := by
   have h1 := (h x).1 (by simp)
   have h2 := (h y).2 (by simp)
   simp only [List.mem_cons] at h1 h2
   rcases h1 with h1 | h1
   ·exact h1
   ·rcases h2 with h2 | h2
    ·exact h2.symm
    ·have := hl.1 y h2
     have := hm.1 x h1
     omega
  subst e
  rw [pw_ext hl.2 hm.2 fun r => ?_]
  have h1 := h r
  simp only [List.mem_cons] at h1
  constructor
  ·intro hr
   rcases h1.1 (.inr hr) with e | e
   ·subst e; have := hl.1 r hr; omega
   ·exact e
  ·intro hr
   rcases h1.2 (.inr hr) with e | e
   ·subst e; have := hm.1 r hr; omega
   ·exact e
def bkZ : Bk := ⟨[], []⟩
def fileS (B : Bk) (r : Rp) : Bk × Int :=
 if (nus B.rp)[bsI (nus B.rp) r.nu]? = some r.nu then (if gR B.rp (bsI (nus B.rp) r.nu) = r then (B, 0) else (bkZ, 46))
 else if B.rp.length = 4096 then (bkZ, 10) else (⟨B.op, B.rp.take (bsI (nus B.rp) r.nu) ++ r :: B.rp.drop (bsI (nus B.rp) r.nu)⟩, 0)
theorem file_new {B : Bk} (h : BkOK B) {r : Rp} (hr : RpOK B.op r) (hn : ∀ q ∈ B.rp, q.nu ≠ r.nu) (hl : B.rp.length < 4096) :
  ∃ l, fileS B r = (⟨B.op, l⟩, 0) ∧ BkOK ⟨B.op, l⟩ ∧ (∀ q, q ∈ l ↔ q ∈ B.rp ∨ q = r) ∧ l.length = B.rp.length + 1 := by
 have hA := pw_asc h.asc
 have hk := bsI_le (nus B.rp) r.nu
 have hno : ¬ (nus B.rp)[bsI (nus B.rp) r.nu]? = some r.nu := by
  rw [bsI_mem _ _ hA]
  intro hm
  obtain ⟨q, h1, h2⟩ := List.mem_map.1 hm
  exact hn q h1 h2
 rw [List.length_map] at hk
 have lt : ∀ q ∈ B.rp.take (bsI (nus B.rp) r.nu), q.nu < r.nu := fun q hq => by
  obtain ⟨i, hi⟩ := List.getElem?_of_mem hq
  rw [List.getElem?_take] at hi
  split at hi
  ·rename_i hik
   rcases Int.lt_or_le q.nu r.nu with h1 | h1
   ·exact h1
   ·have := bsI_le_of (nus_get.2 ⟨q, hi, rfl⟩) h1; omega
  ·cases hi
 have gt : ∀ q ∈ B.rp.drop (bsI (nus B.rp) r.nu), r.nu < q.nu := fun q hq => by
  obtain ⟨i, hi⟩ := List.getElem?_of_mem hq
  rw [List.getElem?_drop] at hi
  have hne := hn q (List.mem_of_getElem? hi)
  have h0 : (bsI (nus B.rp) r.nu) < B.rp.length := by have := (List.getElem?_eq_some_iff.1 hi).1; omega
  have hat : (nus B.rp)[bsI (nus B.rp) r.nu]? = some (gR B.rp (bsI (nus B.rp) r.nu)).nu := nus_get.2 ⟨_, gR_get h0, rfl⟩
  have h1 := bsI_at hat
  rcases Nat.eq_zero_or_pos i with rfl | hpos
  ·have h2 := gR_get h0
   rw [Nat.add_zero] at hi
   rw [h2] at hi
   obtain rfl := Option.some.inj hi
   omega
  ·have := pw_get h.asc (show bsI (nus B.rp) r.nu < bsI (nus B.rp) r.nu + i by omega) (gR_get h0) hi
   omega
 have mem : ∀ q, q ∈ B.rp.take (bsI (nus B.rp) r.nu) ++ r :: B.rp.drop (bsI (nus B.rp) r.nu) ↔ q ∈ B.rp ∨ q = r := fun q => by
  have h1 : q ∈ B.rp ↔ q ∈ B.rp.take (bsI (nus B.rp) r.nu) ∨ q ∈ B.rp.drop (bsI (nus B.rp) r.nu) := by
   rw [← List.mem_append, List.take_append_drop]
  rw [h1]
  simp only [List.mem_append, List.mem_cons]
  constructor
  ·rintro (h | h | h)
   ·exact .inl (.inl h)
   ·exact .inr h
   ·exact .inl (.inr h)
  ·rintro ((h | h) | h)
   ·exact .inl h
   ·exact .inr (.inr h)
   ·exact .inr (.inl h)
 refine ⟨B.rp.take (bsI (nus B.rp) r.nu) ++ r :: B.rp.drop (bsI (nus B.rp) r.nu), by unfold fileS; rw [if_neg hno, if_neg (by omega)], ⟨h.n, h.ao, ?_, ?_, ?_⟩, mem, ?_⟩
 ·simp; omega
 ·simp only
  rw [List.pairwise_append, List.pairwise_cons]
  refine ⟨h.asc.sublist (List.take_sublist _ _), ⟨gt, h.asc.sublist (List.drop_sublist _ _)⟩, fun a ha b hb => ?_⟩
  simp only [List.mem_cons] at hb
  rcases hb with rfl | hb
  ·exact lt a ha
  ·have := lt a ha; have := gt b hb; omega
 ·intro q hq
  rcases (mem q).1 hq with h1 | rfl
  ·exact h.ro q h1
  ·exact hr
 ·simp; omega
theorem file_old {B : Bk} (h : BkOK B) {r : Rp} (hr : r ∈ B.rp) : fileS B r = (B, 0) := by
 have hA := pw_asc h.asc
 have hm : (nus B.rp)[bsI (nus B.rp) r.nu]? = some r.nu := (bsI_mem _ _ hA).2 (List.mem_map_of_mem hr)
 obtain ⟨q, h1, h2⟩ := nus_get.1 hm
 obtain ⟨j, hj⟩ := List.getElem?_of_mem hr
 have e : q = r := by
  rcases Nat.lt_trichotomy (bsI (nus B.rp) r.nu) j with h3 | h3 | h3
  ·have := pw_get h.asc h3 h1 hj; omega
  ·rw [h3, hj] at h1; exact (Option.some.inj h1).symm
  ·have := pw_get h.asc h3 hj h1; omega
 unfold fileS
 have hlt : bsI (nus B.rp) r.nu < B.rp.length := (List.getElem?_eq_some_iff.1 h1).1
 rw [gR_get hlt] at h1
 rw [if_pos hm, if_pos (by rw [Option.some.inj h1]; exact e)]
theorem file_any {B : Bk} (h : BkOK B) {r : Rp} (hr : RpOK B.op r) (h0 : (fileS B r).2 = 0) : BkOK (fileS B r).1 ∧ (fileS B r).1.op = B.op ∧ ∀ q, q ∈ (fileS B r).1.rp ↔ q ∈ B.rp ∨ q = r := by
 by_cases hm : r.nu ∈ nus B.rp
 ·have hA := pw_asc h.asc
  have h1 := (bsI_mem _ _ hA).2 hm
  unfold fileS at h0 ⊢
  rw [if_pos h1] at h0 ⊢
  split at h0
  ·rename_i h2
   rw [if_pos h2]
   refine ⟨h, rfl, fun q => ⟨.inl, fun hq => hq.elim id fun e => ?_⟩⟩
   subst e
   obtain ⟨a, ha, _⟩ := nus_get.1 h1
   have hlt := (List.getElem?_eq_some_iff.1 ha).1
   have := List.mem_of_getElem? (gR_get hlt)
   rwa [h2] at this
  ·cases h0
 ·by_cases hl : B.rp.length = 4096
  ·unfold fileS at h0
   rw [if_neg (fun h1 => hm ((bsI_mem _ _ (pw_asc h.asc)).1 h1)), if_pos hl] at h0
   cases h0
  ·obtain ⟨l, e, h1, h2, _⟩ := file_new h hr (fun q hq e => hm (List.mem_map.2 ⟨q, hq, e⟩)) (by have := h.m; omega)
   rw [e]
   exact ⟨h1, rfl, h2⟩
section
variable {a b : Ac} (ha : AcOK a) (hb : AcOK b) (va : VD a.st a.ins a.outs a.ins.length) (vb : VD b.st b.ins b.outs b.ins.length) (hl : a.ins.length = b.ins.length) (hs : ∀ s x y, HiA a a.ins.length s x y → HiA b a.ins.length s x y)
include ha hb va vb hl hs
end
def curS (B : Bk) (i : Nat) : Ac × Int × Int := curL i B.rp (gA B.op i)
def tigS (B : Bk) (i : Nat) : Ac × Int := if (curS B i).2.2 ≠ 0 then (acZ, (curS B i).2.2) else tightS (curS B i).1
theorem BkOK.sub {B : Bk} (h : BkOK B) {l : List Rp} (hl : l.Sublist B.rp) : BkOK ⟨B.op, l⟩ :=
 ⟨h.n, h.ao, Nat.le_trans hl.length_le h.m, h.asc.sublist hl, fun r hr => h.ro r (hl.subset hr)⟩
structure Tr where
 S : List Int
 I : List Int
 O : List Int
 deriving Inhabited
def trv (t : Tr) : AV := .agg [.list 1 (ints t.S), .list 1 (ints t.I), .list 1 (ints t.O)]
def trs (l : List Tr) : List AV := l.map trv
theorem trs_length (l : List Tr) : (trs l).length = l.length := by simp [trs]
theorem trs_get (l : List Tr) (i : Nat) : (trs l)[i]? = (l[i]?).map trv := by simp [trs]
theorem trs_pur (l : List Tr) : ∀ x ∈ trs l, x.pur = true := by simp [trs, trv, go_sem, ints_pur]
theorem trs_ok (l : List Tr) : ∀ x ∈ trs l, okE 3 x := by simp [trs, trv, okE, go_sem]
def gT (l : List Tr) (i : Nat) : Tr := l.getD i default
theorem gT_get {l : List Tr} {i : Nat} (h : i < l.length) : l[i]? = some (gT l i) := by simp [gT, List.getD_eq_getElem?_getD, h]
def TrA (a : Ac) (t : Tr) : Prop := ∃ n, Drn a n t.S t.I t.O
def RpT (a : Ac) (r : Rp) (t : Tr) : Prop := RpH a r (fun i => t.S.getD i 0) (fun i => t.I.getD i 0) (fun i => t.O.getD i 0)
structure TrB (B : Bk) (T : List Tr) : Prop where
 ok : BkOK B
 n1 : 1 ≤ B.op.length
 n2 : B.op.length ≤ 2
 len : T.length = B.op.length
 tr : ∀ i, i < B.op.length → TrA (gA B.op i) (gT T i)
 rt : ∀ r ∈ B.rp, RpT (gA B.op r.ac.toNat) r (gT T r.ac.toNat)
 nu : ∀ r ∈ B.rp, r.nu ≤ 20
theorem TrA.hi {a : Ac} {t : Tr} (h : TrA a t) : HiA a a.ins.length (fun i => t.S.getD i 0) (fun i => t.I.getD i 0) (fun i => t.O.getD i 0) ∧ t.S.length = a.ins.length + 1 ∧ t.I.length = a.ins.length ∧ t.O.length = a.ins.length ∧ AcOK a := by
 obtain ⟨n, h⟩ := h
 obtain ⟨h1, h2⟩ := h.hi
 exact ⟨by rw [h1]; exact h2, by rw [h1]; exact h.h.ls, by rw [h1]; exact h.h.li, by rw [h1]; exact h.h.lo, h.lse.ok⟩
structure TrG (a : Ac) (t : Tr) : Prop where
 hi : HiA a a.ins.length (fun i => t.S.getD i 0) (fun i => t.I.getD i 0) (fun i => t.O.getD i 0)
 lS : t.S.length = a.ins.length + 1
 lI : t.I.length = a.ins.length
 lO : t.O.length = a.ins.length
 ok : AcOK a
 bS : ∀ i, i ≤ a.ins.length → 0 ≤ t.S.getD i 0 ∧ t.S.getD i 0 ≤ 900
 bI : ∀ i, i < a.ins.length → 0 ≤ t.I.getD i 0 ∧ t.I.getD i 0 ≤ 900
 bO : ∀ i, i < a.ins.length → 0 ≤ t.O.getD i 0 ∧ t.O.getD i 0 ≤ 900
theorem TrA.g {a : Ac} {t : Tr} (h : TrA a t) : TrG a t := by
 obtain ⟨h1, h2, h3, h4, h5⟩ := h.hi
 obtain ⟨n, hD⟩ := h
 have hn := hD.hi.1
 have h5' := hD.n5
 refine ⟨h1, h2, h3, h4, h5, fun i hi => ?_, fun i hi => ?_, fun i hi => ?_⟩
 ·have := hD.h.s i (by omega); omega
 ·have := hD.h.i i (by omega); omega
 ·have := hD.h.o i (by omega); omega
structure OI (op : List Ac) (l : List Rp) (z : Bk) (rest : List Rp) : Prop where
 ok : BkOK z
 op : z.op = op
 mem : ∀ q, q ∈ l ↔ q ∈ z.rp ∨ q ∈ rest
 ne : ∀ q ∈ z.rp, ∀ p ∈ rest, q.nu ≠ p.nu
 pw : rest.Pairwise fun a b => a.nu ≠ b.nu
 len : z.rp.length + rest.length = l.length
theorem cut_mem {l : List Rp} {k : Nat} {r : Rp} (h : l[k]? = some r) (q : Rp) : q ∈ l ↔ q = r ∨ q ∈ l.take k ++ l.drop (k + 1) := by
 have hk := (List.getElem?_eq_some_iff.1 h).1
 have e : l = l.take k ++ r :: l.drop (k + 1) := by
  have h1 : l.drop k = r :: l.drop (k + 1) := by rw [List.drop_eq_getElem_cons hk, (List.getElem?_eq_some_iff.1 h).2]
  rw [← h1, List.take_append_drop]
 constructor
 ·intro hq
  rw [e] at hq
  simp only [List.mem_append, List.mem_cons] at hq ⊢
  rcases hq with h | h | h
  ·exact .inr (.inl h)
  ·exact .inl h
  ·exact .inr (.inr h)
 ·intro hq
  rw [e]
  simp only [List.mem_append, List.mem_cons] at hq ⊢
  rcases hq with h | h | h
  ·exact .inr (.inl h)
  ·exact .inl h
  ·exact .inr (.inr h)
theorem cut_pw {l : List Rp} {k : Nat} {r : Rp} (h : l[k]? = some r) (hp : l.Pairwise fun a b => a.nu ≠ b.nu) : ((l.take k ++ l.drop (k + 1)).Pairwise fun a b => a.nu ≠ b.nu) ∧ ∀ q ∈ l.take k ++ l.drop (k + 1), r.nu ≠ q.nu := by
 have hk := (List.getElem?_eq_some_iff.1 h).1
 have e : l = l.take k ++ r :: l.drop (k + 1) := by
  have h1 : l.drop k = r :: l.drop (k + 1) := by rw [List.drop_eq_getElem_cons hk, (List.getElem?_eq_some_iff.1 h).2]
  rw [← h1, List.take_append_drop]
 rw [e, List.pairwise_append, List.pairwise_cons] at hp
 obtain ⟨h1, ⟨h2, h3⟩, h4⟩ := hp
 refine ⟨List.pairwise_append.2 ⟨h1, h3, fun a ha b hb => h4 a ha b (by simp [hb])⟩, fun q hq => ?_⟩
 rcases List.mem_append.1 hq with h5 | h5
 ·exact fun e => h4 q h5 r (by simp) e.symm
 ·exact h2 q h5
theorem OI.start {op : List Ac} {l : List Rp} (h : BkOK ⟨op, []⟩) (hp : l.Pairwise fun a b => a.nu ≠ b.nu) : OI op l ⟨op, []⟩ l :=
 ⟨h, rfl, fun q => by simp, fun q hq => by simp at hq, hp, by simp⟩
theorem OI.step {op : List Ac} {l : List Rp} {z : Bk} {rest : List Rp} (h : OI op l z rest) (hl : l.length ≤ 100) (hr : ∀ q ∈ l, RpOK op q) {k : Nat} {r : Rp} (hk : rest[k]? = some r) :
  ∃ w, fileS z r = (w, 0) ∧ fileS w r = (w, 0) ∧ OI op l w (rest.take k ++ rest.drop (k + 1)) := by
 have hrm := List.mem_of_getElem? hk
 have hlt := (List.getElem?_eq_some_iff.1 hk).1
 have hok : RpOK z.op r := by rw [h.op]; exact hr r ((h.mem r).2 (.inr hrm))
 obtain ⟨m, f1, f2, f3, f4⟩ := file_new h.ok hok (fun q hq => h.ne q hq r hrm) (by have := h.len; omega)
 obtain ⟨p1, p2⟩ := cut_pw hk h.pw
 refine ⟨⟨z.op, m⟩, f1, file_old f2 ((f3 r).2 (.inr rfl)), f2, h.op, fun q => ?_, fun q hq p hp => ?_, p1, ?_⟩
 ·rw [h.mem q, cut_mem hk q]
  simp only
  rw [f3 q, or_assoc]
 ·rcases (f3 q).1 hq with h1 | rfl
  ·exact h.ne q h1 p ((cut_mem hk p).2 (.inr hp))
  ·exact p2 p hp
 ·have := h.len
  simp only [f4, List.length_append, List.length_take, List.length_drop]
  omega
theorem OI.done {op : List Ac} {l : List Rp} {z x : Bk} (h : OI op l z []) (k : OI op l x []) : x = z ∧ z.rp.length = l.length := by
 have e : x.rp = z.rp := pw_ext k.ok.asc h.ok.asc fun q => by
  have h1 := h.mem q
  have h2 := k.mem q
  simp only [List.not_mem_nil, or_false] at h1 h2
  rw [← h1, ← h2]
 refine ⟨?_, by have := h.len; simpa using this⟩
 have e2 : x.op = z.op := by rw [h.op, k.op]
 obtain ⟨a, b⟩ := x
 obtain ⟨c, d⟩ := z
 simp only at e e2
 rw [e, e2]
theorem run_overlaps_list {P : Program} (w : World) (tS tR e : TypeId) (ht : P.underlying tS = some (.slice e)) (size : Nat) (hz : ∀ w, (Go.sizeOf e).run P w = .ok size w)
  (a b : Addr) (la ca lb cb : Nat) (hne : a.block ≠ b.block) (tA tB : TypeId) (kA kB : Nat)
  (hsa : w.shape? a.block = some (tA, kA)) (hsb : w.shape? b.block = some (tB, kB)) (hkA : kA ≠ 0)
  (hfb : w.frozen? b = false) (hfe : w.frozen? { block := b.block, off := kB } = false) :
  (Extern.SlicesOverlaps.overlaps #[tS, tS] #[tR] #[.slice (some a) la ca, .slice (some b) lb cb]).run P w = .ok (.bool false) w := by
 have hnb : (a.block != b.block) = true := by simpa using hne
 have hnb' : (a.block == b.block) = false := by simpa using hne
 obtain ⟨r, hr⟩ : ∃ r, Extern.SlicesOverlaps.overlaps #[tS, tS] #[tR] #[.slice (some a) la ca, .slice (some b) lb cb] = r := ⟨_, rfl⟩
 rw [hr]
 unfold Extern.SlicesOverlaps.overlaps at hr
 conv at hr => lhs; whnf
 have ht0 : P.underlying (#[tS, tS][0]) = some (.slice e) := ht
 have pb : ∀ {α : Type} (x : α) (f : α → Sem Value), (pure x : Sem α).bind f = f x := fun _ _ => rfl
 rw [← hr]
 cases kA with
 | zero => exact absurd rfl hkA
 | succ kA =>
  by_cases h0 : la = 0 ∨ lb = 0 ∨ size = 0
  ·simp [Sem.run, Sem.bind, ht0, ht, pb, hz, h0]
  ·cases hfa : w.frozen? a <;> cases hfa2 : w.frozen? { block := a.block, off := kA + 1 } <;>
    simp [Sem.run, Sem.bind, ht0, ht, pb, hz, h0, hnb, hnb', frozen, noView, viewAt, mayBeOne, stringish, shape, hsa, hsb, hfa, hfa2, hfb, hfe]
theorem HC_ovl_l {P : Program} {σ : St} {f : Nat} {tS tR : TypeId} (he : extOf P f = some (Extern.SlicesOverlaps.overlaps #[tS, tS] #[tR])) (ht : eltOf P tS = true)
  {es : Nat} {L : List AV} {id' g' es' off' n' c' : Nat} {o' : AObj} (hL : L ≠ []) (hes : 0 < es) (ho' : σ.ob id' = some o') (hg' : o'.g = g') (hro : o'.ro = false) (hap : o'.ap = true) :
  HC P f [.list es L, .slk id' g' es' off' n' c'] σ fun r σ' => r = .bool false ∧ σ' = σ := by
 subst hg'
 refine ⟨(run_extOf he).1, fun m S w vs hS hv => .inr ?_⟩
 obtain ⟨v1, v2, rfl⟩ : ∃ v1 v2, vs = [v1, v2] := by
  match vs, hv.1 with
  | [a, b], _ => exact ⟨a, b, rfl⟩
 have h1 := hv.2 0 _ v1 rfl rfl
 have h2 := hv.2 1 _ v2 rfl rfl
 obtain ⟨b', len', hu', rfl, hcap'⟩ := h2.of_slk
 obtain ⟨v', hm', ⟨_, hes', xs', hown', _⟩, hSb⟩ := hS.obj id' o' ho'
 rw [hu'] at hm'; obtain rfl := Option.some.inj hm'
 rcases (hown'.own rfl).2 with ⟨h, _⟩ | ⟨b2, len2, cap2, cur2, fr2, h, hgb2, hnc2, hcm2, hsz2, htk2, hfr2, hfr02⟩
 ·cases h
 cases h
 obtain rfl := hfr02 hap
 cases h1 with
 | pure h1 =>
  cases h1 with
  | listNil => exact absurd rfl hL
  | @list _ _ b o cap ff hl' hcap hSS hc hw hvv =>
   obtain ⟨hSb1, cs, t, fr, hgb⟩ := hSS
   have hbb : b ≠ b' := fun e => (hSb b' rfl).2 hro (e ▸ hSb1)
   have hcell := hw 0 0 (by cases L with
    | nil => exact absurd rfl hL
    | cons x r => simp) hes
   have hk1 : cs.size ≠ 0 := by
    simp only [World.cell?, hgb] at hcell
    intro h0
    have : cs = #[] := Array.eq_empty_of_size_eq_zero h0
    subst this
    simp at hcell
   unfold eltOf at ht
   split at ht
   ·rename_i e hue
    obtain ⟨i, hi⟩ := Option.isSome_iff_exists.1 ht
    refine ⟨.bool false, w, ?_, .bool false, σ, m, S, .bool false, rfl, ⟨rfl, rfl⟩, ?_, Ext.refl m S w, .pure (.bool false)⟩
    ·rw [(run_extOf he).2]
     rw [run_overlaps_list w tS tR e hue i.size (fun w => run_sizeOf' hi w) ⟨b, o, none⟩ ⟨b', off' * es', none⟩ L.length cap n' (c' - off') hbb t o'.ty cs.size cur2.size
      (by simp [World.shape?, hgb]) (by simp [World.shape?, hgb2]) hk1 (by simp [World.frozen?, hgb2]) (by simp [World.frozen?, hgb2])]
     rfl
    ·exact ⟨hS, ⟨rfl, rfl, rfl, Nat.le_refl _, fun _ _ _ => rfl, fun k o v b ho hro hm hb => .inl ⟨k, o, v, ho, hro, hm, hb⟩, fun b hb => .inl hb⟩⟩
   ·cases ht
theorem hcL_slices_Insert__Report (σ : St) (id g : Nat) (L : List AV) (x : AV) (i : Nat) (hx : okE 6 x) (hob : σ.ob id = some ⟨g, 6, ty_el_Report, false, true, L⟩)
  (hid : id < σ.n) (hi : i ≤ L.length) (hl : L.length ≤ 1000000) :
  HC prog n_slices_Insert__Report [.sl id g 6 0 L.length, .int .i64 i, .list 6 [x]] σ (InsO σ id 6 ty_el_Report (L.take i ++ x :: L.drop i)) := by
 obtain ⟨ob0, n0, c0⟩ := σ
 simp only at hob hid
 by_cases h0 : i = L.length
 ·subst h0
  refine HC_of_body b_slices_Insert__Report (by simp) ?_
  simp only [c_slices_Insert__Report, go_sem, jA, jB, jC, jD, jE, jF, jG, jH, jI, jJ, ↓reduceIte, reduceCtorEq, jP]
  try simp (disch := omega) only [go_sem, jA, jB, jC, jD, jE, jF, jG, jH, jI, jJ, ↓reduceIte, reduceCtorEq, jO, jM, jN, jK, jL]
  refine ⟨⟨_, hob, rfl⟩, by omega, by omega, ?_, fun h => absurd h (by omega)⟩
  try simp (disch := omega) only [go_sem, jA, jB, jC, jD, jE, jF, jG, jH, jI, jJ, ↓reduceIte, reduceCtorEq, jO, jM, jN, jK, jL, hob]
  repeat (refine And.intro (by first | omega | (rw [mxL]; omega) | (simp [maxLen]; done) | (simp [maxLen]; omega)) ?_)
  have e : L.take L.length ++ x :: L.drop L.length = L ++ [x] := by simp
  rw [e]
  exact ⟨id, c0, by simp, .inl rfl, hid, Nat.le_refl _, upd_same _ _ _, fun k _ hk => upd_ne _ _ _ _ hk⟩
 refine HC.clip (R := fun r τ => (∃ c, r = .slk id g 6 0 (L.length + 1) c ∧ τ = ⟨upd ob0 id (some ⟨g, 6, ty_el_Report, false, true, L.take i ++ x :: L.drop i⟩), n0, c0⟩) ∨
  (r = .sl n0 c0 6 0 (L.length + 1) ∧ τ = ⟨upd ob0 n0 (some ⟨c0, 6, ty_el_Report, false, true, L.take i ++ x :: L.drop i⟩), n0 + 1, c0 + 1⟩)) (HC.slk hob rfl (by omega) rfl (fun c hc hcm => ?_) (by omega)) ?_
 ·refine HC_of_body b_slices_Insert__Report (by simp) ?_
  simp only [c_slices_Insert__Report, go_sem, jA, jB, jC, jD, jE, jF, jG, jH, jI, jJ, ↓reduceIte, reduceCtorEq, jP]
  have hne1 : ¬ ((i : Int) = (L.length : Int)) := by omega
  try simp (disch := omega) only [go_sem, jA, jB, jC, jD, jE, jF, jG, jH, jI, jJ, ↓reduceIte, reduceCtorEq, jO, jM, jN, jK, jL, hne1]
  refine ⟨hc, by omega, by omega, fun h => by omega, fun _ => ?_⟩
  refine cond_d (fun hgrow => ?_) (fun hroom => ?_)
  ·have hcl : c = L.length := by omega
   subst hcl
   try simp (disch := omega) only [go_sem, jA, jB, jC, jD, jE, jF, jG, jH, jI, jJ, ↓reduceIte, reduceCtorEq, jO, jM, jN, jK, jL]
   refine ⟨by omega, by omega, by omega, fun h => by omega, fun _ => ?_⟩
   refine appz_k ?_
   have htn : ((L.length : Int) + 1 - (i : Int)).toNat = L.length + 1 - i := by omega
   try simp (disch := omega) only [go_sem, jA, jB, jC, jD, jE, jF, jG, jH, jI, jJ, ↓reduceIte, reduceCtorEq, jO, jM, jN, jK, jL, hob, htn]
   refine ⟨by omega, by omega, by omega, by omega, by omega, by omega, by omega, fun h => by omega, fun _ => ?_⟩
   have hn2 : ¬ n0 = id := by omega
   try simp (disch := omega) only [go_sem, jA, jB, jC, jD, jE, jF, jG, jH, jI, jJ, ↓reduceIte, reduceCtorEq, jO, jM, jN, jK, jL, hob]
   have hin : ((i : Int) + 1).toNat = i + 1 := by omega
   try simp (disch := omega) only [go_sem, jA, jB, jC, jD, jE, jF, jG, jH, jI, jJ, ↓reduceIte, reduceCtorEq, jO, jM, jN, jK, jL, hob, hin]
   refine ⟨by simp; omega, by omega, by omega, by omega, fun h => by omega, fun _ => ⟨by omega, by omega, fun h => by omega, fun _ => ?_⟩⟩
   refine cpy_sk ?_
   try simp (disch := omega) only [go_sem, jA, jB, jC, jD, jE, jF, jG, jH, jI, jJ, ↓reduceIte, reduceCtorEq, jO, jM, jN, jK, jL, hob]
   rw [insG1 (by omega) (by omega) (by omega)]
   refine ⟨by omega, by simp; omega, .inr ⟨by rw [show i + (L.length + 1 - i) = L.length + 1 by omega], ?_⟩⟩
   rw [insG2 (by omega) (by omega) (by omega) (by simp; omega)]
   simp only [upd_upd]
  ·have hin : ((i : Int) + 1).toNat = i + 1 := by omega
   have hln : ((L.length : Int) + 1).toNat = L.length + 1 := by omega
   try simp (disch := omega) only [go_sem, jA, jB, jC, jD, jE, jF, jG, jH, jI, jJ, ↓reduceIte, reduceCtorEq, jO, jM, jN, jK, jL, hin, hln]
   repeat (refine And.intro (by first | omega | (rw [mxL]; omega) | (simp [maxLen]; done) | (simp [maxLen]; omega)) ?_)
   refine fun _ => ⟨by omega, by omega, by omega, fun h => by omega, fun _ => ?_⟩
   refine (HC_ovl_l (σ := ⟨ob0, n0, c0⟩) x_slices_overlaps__Report xt_slices_overlaps__Report (by simp) (by omega) hob rfl rfl rfl).mono ?_
   rintro _ _ ⟨rfl, rfl⟩
   try simp (disch := omega) only [go_sem, jA, jB, jC, jD, jE, jF, jG, jH, jI, jJ, ↓reduceIte, reduceCtorEq, jO, jM, jN, jK, jL, hin]
   refine ⟨by omega, by omega, by omega, fun h => by omega, fun _ => ⟨by omega, by omega, by omega, fun h => by omega, fun _ => ?_⟩⟩
   refine cpy_kk ?_
   try simp (disch := omega) only [go_sem, jA, jB, jC, jD, jE, jF, jG, jH, jI, jJ, ↓reduceIte, reduceCtorEq, jO, jM, jN, jK, jL, hob]
   rw [insR1 (by omega) (by omega) (by omega)]
   refine ⟨by omega, by omega, by omega, by omega, by omega, by omega, fun h => by omega, fun _ => ?_⟩
   rw [insR2 (by omega) (by omega) (by omega)]
   refine ⟨by omega, by simp; omega, c, rfl, ?_⟩
   rw [upd_upd]
 ·rintro r τ (⟨c, rfl, rfl⟩ | ⟨rfl, rfl⟩)
  ·refine ⟨.sl id g 6 0 (L.length + 1), upd ob0 id (some ⟨g, 6, ty_el_Report, false, true, L.take i ++ x :: L.drop i⟩), .inr ⟨id, g, 6, 0, _, c, rfl, rfl⟩, fun q o hq => ⟨o, hq, rfl, rfl, rfl, rfl, rfl, o.l.length, by simp, .inl rfl⟩, ?_⟩
   have hlen : (L.take i ++ x :: L.drop i).length = L.length + 1 := by simp; omega
   refine ⟨id, g, by rw [hlen], .inl rfl, hid, Nat.le_refl _, upd_same _ _ _, fun k _ hk => upd_ne _ _ _ _ hk⟩
  ·refine ⟨.sl n0 c0 6 0 (L.length + 1), upd ob0 n0 (some ⟨c0, 6, ty_el_Report, false, true, L.take i ++ x :: L.drop i⟩), .inl rfl, fun q o hq => ⟨o, hq, rfl, rfl, rfl, rfl, rfl, o.l.length, by simp, .inl rfl⟩, ?_⟩
   have hlen : (L.take i ++ x :: L.drop i).length = L.length + 1 := by simp; omega
   exact ⟨n0, c0, by rw [hlen], .inr (Nat.le_refl _), Nat.lt_succ_self _, Nat.le_succ _, upd_same _ _ _, fun k hk _ => upd_ne _ _ _ _ (by simp only at hk; omega)⟩
theorem ok_revision_twin (a : Ac) (h : AcOK a) : PC prog n_revision_twin [acv a] (acv a) := by
 have h1 := h.n2
 have h2 := h.no
 have h3 := h.ns
 refine PC_of_body b_revision_twin (by simp) ?_
 simp only [c_revision_twin, go_sem, jA, jB, jC, jD, jE, jF, jG, jH, jI, jJ, ↓reduceIte, reduceCtorEq, jP, acv]
 try simp (disch := omega) only [go_sem, jA, jB, jC, jD, jE, jF, jG, jH, jI, jJ, ↓reduceIte, reduceCtorEq, jO, jM, jN, jK, jL]
 refine call_pc (okl_slices_Clone__Bounds (bds a.st) (by rw [bds_length]; omega) (bds_pur _) (bds_ok _)) (by simp [go_sem, bds_pur]) ?_
 try simp (disch := omega) only [go_sem, jA, jB, jC, jD, jE, jF, jG, jH, jI, jJ, ↓reduceIte, reduceCtorEq, jO, jM, jN, jK, jL]
 refine call_pc (okl_slices_Clone__Bounds (bds a.ins) (by rw [bds_length]; omega) (bds_pur _) (bds_ok _)) (by simp [go_sem, bds_pur]) ?_
 try simp (disch := omega) only [go_sem, jA, jB, jC, jD, jE, jF, jG, jH, jI, jJ, ↓reduceIte, reduceCtorEq, jO, jM, jN, jK, jL]
 refine call_pc (okl_slices_Clone__Bounds (bds a.outs) (by rw [bds_length]; omega) (bds_pur _) (bds_ok _)) (by simp [go_sem, bds_pur]) ?_
 try simp (disch := omega) only [go_sem, jA, jB, jC, jD, jE, jF, jG, jH, jI, jJ, ↓reduceIte, reduceCtorEq, jO, jM, jN, jK, jL]
 exact Pub.of_eq rfl (by simp [go_sem, bds_pur])
theorem ok_revision_opened (l : List Ac) (hn : l.length ≤ 16) (h : ∀ a ∈ l, AcOK a) : PC prog n_revision_opened [.list 4 (acs l)] (.int .i64 0) := by
 refine PC_of_body b_revision_opened (by simp) ?_
 simp only [c_revision_opened, go_sem, jA, jB, jC, jD, jE, jF, jG, jH, jI, jJ, ↓reduceIte, reduceCtorEq, jP, acs_length]
 refine cond_d (fun hgt => by omega) (fun hle => ?_)
 try simp (disch := omega) only [go_sem, jA, jB, jC, jD, jE, jF, jG, jH, jI, jJ, ↓reduceIte, reduceCtorEq, jO, jM, jN, jK, jL, acs_length]
 refine awp_upG [2, 4, 5, 11, 12, 13, 14, 15, 16, 17, 18, 19, 20] (by kernel_rfl) l.length (fun k e σ => e 11 = .int .i64 k) ?_ ?_
 ·exact (by first | rfl | (simp (disch := omega) only [go_sem, jA, jB, jC, jD, jE, jF, jG, jH, jI, jJ, ↓reduceIte, reduceCtorEq, jP, jO, jM, jN]; try rfl))
 rintro k fe ob m c hk hm h11
 simp (maxSteps := 1000000) only [go_sem, jA, jB, jC, jD, jE, jF, jG, jH, jI, jJ, ↓reduceIte, reduceCtorEq, jP] at h11
 try simp (disch := omega) only [go_sem, jA, jB, jC, jD, jE, jF, jG, jH, jI, jJ, ↓reduceIte, reduceCtorEq, jO, jM, jN, jK, jL, h11]
 refine cond_d (fun hlt => ?_) (fun hge => ?_)
 ·have hkl : k < l.length := by omega
  have e1 := gA_get hkl
  have ha := h _ (List.mem_of_getElem? e1)
  have hC := ok_ledger_Check (gA l k) ha.l
  rw [chk_ok.2 ha] at hC
  generalize gA l k = a at *
  try simp (disch := omega) only [go_sem, jA, jB, jC, jD, jE, jF, jG, jH, jI, jJ, ↓reduceIte, reduceCtorEq, jO, jM, jN, jK, jL, h11, acs_length, acs_get, e1, Option.map_some, acv]
  refine ⟨by omega, by omega, ?_⟩
  simp only [acv] at hC
  refine call_pc hC (by simp [go_sem, bds_pur]) ?_
  try simp (disch := omega) only [go_sem, jA, jB, jC, jD, jE, jF, jG, jH, jI, jJ, ↓reduceIte, reduceCtorEq, jO, jM, jN, jK, jL, h11]
  exact up_nextG _ hkl (Nat.le_succ_of_le hm) (by first | rfl | (simp (disch := omega) only [go_sem, jA, jB, jC, jD, jE, jF, jG, jH, jI, jJ, ↓reduceIte, reduceCtorEq, jP, jO, jM, jN]; try rfl))
 ·try simp (disch := omega) only [go_sem, jA, jB, jC, jD, jE, jF, jG, jH, jI, jJ, ↓reduceIte, reduceCtorEq, jO, jM, jN, jK, jL]
  exact Pub.of_eq rfl rfl
theorem ok_revision_numbered (r : Rp) (h1 : 1 ≤ r.nu) (h2 : r.nu ≤ 1073741824) : PC prog n_revision_numbered [rpv r] (.bool true) := by
 refine PC_of_body b_revision_numbered (by simp) ?_
 simp only [c_revision_numbered, go_sem, jA, jB, jC, jD, jE, jF, jG, jH, jI, jJ, ↓reduceIte, reduceCtorEq, jP, rpv]
 try simp (disch := omega) only [go_sem, jA, jB, jC, jD, jE, jF, jG, jH, jI, jJ, ↓reduceIte, reduceCtorEq, jO, jM, jN, jK, jL, h1, h2, decide_true]
 exact Pub.of_eq rfl rfl
theorem ok_revision_report (op : List Ac) (r : Rp) (hop : ∀ a ∈ op, AcOK a) (h : RpOK op r) : PC prog n_revision_report [.list 4 (acs op), rpv r] (.int .i64 0) := by
 obtain ⟨i, hi⟩ : ∃ i : Nat, r.ac = i := ⟨r.ac.toNat, by have := h.a0; omega⟩
 have hil : i < op.length := by have := h.a1; omega
 have e1 := gA_get hil
 have ha := hop _ (List.mem_of_getElem? e1)
 have hr := h.a
 rw [hi, Int.toNat_natCast] at hr
 have h1 := ha.n1
 have h2 := ha.n2
 have h3 := ha.f0
 have h4 := ha.f1
 have hfl := fld_len ha hr.fd
 have t0 := hr.t0
 have t1 := hr.t1
 rw [hfl] at t1
 obtain ⟨b0, b1, b2⟩ := hr.b
 simp only [mxV] at b2
 have hfd := hr.fd
 generalize gA op i = a at *
 obtain ⟨nu, ac, fd, tm, b⟩ := r
 simp only at hi t0 t1 b0 b1 b2 hfd
 subst hi
 refine PC_of_body b_revision_report (by simp) ?_
 simp only [c_revision_report, go_sem, jA, jB, jC, jD, jE, jF, jG, jH, jI, jJ, ↓reduceIte, reduceCtorEq, jP, rpv]
 have q1 : ¬ ((i : Int) < 0) := by omega
 have q2 : ¬ ((op.length : Int) ≤ (i : Int)) := by omega
 have q3 : ¬ (fd < 1) := by omega
 have q4 : ¬ (3 < fd) := by omega
 have q5 : ¬ (tm < a.fr) := by omega
 have q6 : ¬ (b.lo < 0) := by omega
 have q7 : ¬ (274877906944 < b.hi) := by omega
 have q8 : ¬ (b.hi < b.lo) := by omega
 try simp (disch := omega) only [go_sem, jA, jB, jC, jD, jE, jF, jG, jH, jI, jJ, ↓reduceIte, reduceCtorEq, jO, jM, jN, jK, jL, acs_length, acs_get, e1, Option.map_some, acv, bds_length, q1, q2, q3, q4, decide_false]
 refine ⟨by omega, by omega, ?_⟩
 refine cond_d (fun hf1 => ?_) (fun hf1 => ?_)
 ·rw [if_pos hf1] at t1
  have q9 : ¬ (a.fr + (a.ins.length : Int) - 1 + 1 < tm) := by omega
  try simp (disch := omega) only [go_sem, jA, jB, jC, jD, jE, jF, jG, jH, jI, jJ, ↓reduceIte, reduceCtorEq, jO, jM, jN, jK, jL, q5, q6, q7, q8, q9, decide_false]
  exact Pub.of_eq rfl rfl
 ·rw [if_neg hf1] at t1
  have q9 : ¬ (a.fr + (a.ins.length : Int) - 1 < tm) := by omega
  try simp (disch := omega) only [go_sem, jA, jB, jC, jD, jE, jF, jG, jH, jI, jJ, ↓reduceIte, reduceCtorEq, jO, jM, jN, jK, jL, q5, q6, q7, q8, q9, decide_false]
  exact Pub.of_eq rfl rfl
theorem ok_revision_Check (B : Bk) (h : BkOK B) : PC prog n_revision_Check [bkv B] (.int .i64 0) := by
 have hm := h.m
 have hO := ok_revision_opened B.op h.n h.ao
 refine PC_of_body b_revision_Check (by simp) ?_
 simp only [c_revision_Check, go_sem, jA, jB, jC, jD, jE, jF, jG, jH, jI, jJ, ↓reduceIte, reduceCtorEq, jP, bkv]
 refine call_pc hO (by simp [go_sem, acs_pur]) ?_
 try simp (disch := omega) only [go_sem, jA, jB, jC, jD, jE, jF, jG, jH, jI, jJ, ↓reduceIte, reduceCtorEq, jO, jM, jN, jK, jL, rps_length]
 refine cond_d (fun hgt => by omega) (fun hle => ?_)
 try simp (disch := omega) only [go_sem, jA, jB, jC, jD, jE, jF, jG, jH, jI, jJ, ↓reduceIte, reduceCtorEq, jO, jM, jN, jK, jL, rps_length]
 refine awp_upG [2, 4, 5, 6, 20, 21, 22, 23, 24, 25, 26, 27, 28, 29, 30, 31, 32, 33, 34, 35, 36, 37, 38, 39, 40, 41, 42, 43, 44, 45, 46, 47, 48, 49] (by kernel_rfl) B.rp.length (fun k e σ => e 20 = .int .i64 k ∧ σ.ob 0 = some ⟨0, 2, 30, false, true, [.agg [.list 4 (acs B.op), .list 6 (rps B.rp)]]⟩) ?_ ?_
 ·exact ⟨(by first | rfl | (simp (disch := omega) only [go_sem, jA, jB, jC, jD, jE, jF, jG, jH, jI, jJ, ↓reduceIte, reduceCtorEq, jP, jO, jM, jN]; try rfl)), by try simp (disch := omega) only [go_sem, jA, jB, jC, jD, jE, jF, jG, jH, jI, jJ, ↓reduceIte, reduceCtorEq, jO, jM, jN, jK, jL]⟩
 rintro k fe ob m c hk hm2 ⟨h20, u0⟩
 simp (maxSteps := 1000000) only [go_sem, jA, jB, jC, jD, jE, jF, jG, jH, jI, jJ, ↓reduceIte, reduceCtorEq, jP] at h20 u0 hm2
 try simp (disch := omega) only [go_sem, jA, jB, jC, jD, jE, jF, jG, jH, jI, jJ, ↓reduceIte, reduceCtorEq, jO, jM, jN, jK, jL, h20]
 refine cond_d (fun hlt => ?_) (fun hge => ?_)
 ·have hkl : k < B.rp.length := by omega
  have e1 := gR_get hkl
  have hr := h.ro _ (List.mem_of_getElem? e1)
  have hN := ok_revision_numbered (gR B.rp k) hr.n1 hr.n2
  have hR := ok_revision_report B.op (gR B.rp k) h.ao hr
  have z0 : ¬ 0 = m := by omega
  simp only [rpv] at hN hR
  try simp (disch := omega) only [go_sem, jA, jB, jC, jD, jE, jF, jG, jH, jI, jJ, ↓reduceIte, reduceCtorEq, jO, jM, jN, jK, jL, h20, rps_length, rps_get, e1, Option.map_some, rpv]
  refine ⟨by omega, by omega, ?_⟩
  refine call_pc hN (by simp [go_sem]) ?_
  try simp (disch := omega) only [go_sem, jA, jB, jC, jD, jE, jF, jG, jH, jI, jJ, ↓reduceIte, reduceCtorEq, jO, jM, jN, jK, jL]
  rcases Nat.eq_zero_or_pos k with rfl | hk0
  ·try simp (disch := omega) only [go_sem, jA, jB, jC, jD, jE, jF, jG, jH, jI, jJ, ↓reduceIte, reduceCtorEq, jO, jM, jN, jK, jL, z0, u0]
   refine call_pc hR (by simp [go_sem, acs_pur]) ?_
   try simp (disch := omega) only [go_sem, jA, jB, jC, jD, jE, jF, jG, jH, jI, jJ, ↓reduceIte, reduceCtorEq, jO, jM, jN, jK, jL, h20]
   refine up_nextG (m + 1) hkl (by omega) ⟨(by first | rfl | (simp (disch := omega) only [go_sem, jA, jB, jC, jD, jE, jF, jG, jH, jI, jJ, ↓reduceIte, reduceCtorEq, jP, jO, jM, jN]; try rfl)), ?_⟩
   try simp (disch := omega) only [go_sem, jA, jB, jC, jD, jE, jF, jG, jH, jI, jJ, ↓reduceIte, reduceCtorEq, jO, jM, jN, jK, jL, St.trunc, z0, u0]
  ·have e2 := gR_get (l := B.rp) (i := k - 1) (by omega)
   have hlt2 := pw_get h.asc (show k - 1 < k by omega) e2 e1
   have q1 : (0 : Int) < (k : Int) := by omega
   have q2 : ((k : Int) - 1).toNat = k - 1 := by omega
   have q3 : ¬ (gR B.rp k).nu ≤ (gR B.rp (k - 1)).nu := by omega
   try simp (disch := omega) only [go_sem, jA, jB, jC, jD, jE, jF, jG, jH, jI, jJ, ↓reduceIte, reduceCtorEq, jO, jM, jN, jK, jL, z0, u0, q1, decide_true, q2, rps_length, rps_get, e2, Option.map_some, rpv, q3, decide_false]
   refine ⟨by omega, by omega, ?_⟩
   refine call_pc hR (by simp [go_sem, acs_pur]) ?_
   try simp (disch := omega) only [go_sem, jA, jB, jC, jD, jE, jF, jG, jH, jI, jJ, ↓reduceIte, reduceCtorEq, jO, jM, jN, jK, jL, h20]
   refine up_nextG (m + 1) hkl (by omega) ⟨(by first | rfl | (simp (disch := omega) only [go_sem, jA, jB, jC, jD, jE, jF, jG, jH, jI, jJ, ↓reduceIte, reduceCtorEq, jP, jO, jM, jN]; try rfl)), ?_⟩
   try simp (disch := omega) only [go_sem, jA, jB, jC, jD, jE, jF, jG, jH, jI, jJ, ↓reduceIte, reduceCtorEq, jO, jM, jN, jK, jL, St.trunc, z0, u0]
 ·try simp (disch := omega) only [go_sem, jA, jB, jC, jD, jE, jF, jG, jH, jI, jJ, ↓reduceIte, reduceCtorEq, jO, jM, jN, jK, jL]
  exact Pub.of_eq rfl rfl
theorem ok_revision_File_1 (r : Rp) : PC prog n_revision_File_1 [rpv r] (.int .i64 r.nu) := by
 refine PC_of_body b_revision_File_1 (by simp) ?_
 simp only [c_revision_File_1, go_sem, jA, jB, jC, jD, jE, jF, jG, jH, jI, jJ, ↓reduceIte, reduceCtorEq, jP, rpv]
 try simp (disch := omega) only [go_sem, jA, jB, jC, jD, jE, jF, jG, jH, jI, jJ, ↓reduceIte, reduceCtorEq, jO, jM, jN, jK, jL]
 exact Pub.of_eq rfl rfl
theorem ok_revision_place_1__Report (x : Int) (h : Rp) (hh : -4611686018427387904 ≤ h.nu - x ∧ h.nu - x ≤ 4611686018427387904) : PC prog n_revision_place_1__Report [rpv h, .int .i64 x, .rptr 1 [.func n_revision_File_1 []] 0 0] (.int .i64 (h.nu - x)) := by
 refine PC_of_body b_revision_place_1__Report (by simp) ?_
 simp only [c_revision_place_1__Report, go_sem, jA, jB, jC, jD, jE, jF, jG, jH, jI, jJ, ↓reduceIte, reduceCtorEq, jP, rpv]
 try simp (disch := omega) only [go_sem, jA, jB, jC, jD, jE, jF, jG, jH, jI, jJ, ↓reduceIte, reduceCtorEq, jO, jM, jN, jK, jL]
 refine call_pc (ok_revision_File_1 h) (by simp [go_sem, rpv]) ?_
 try simp (disch := omega) only [go_sem, jA, jB, jC, jD, jE, jF, jG, jH, jI, jJ, ↓reduceIte, reduceCtorEq, jO, jM, jN, jK, jL]
 exact Pub.of_eq rfl rfl
theorem hc_slices_BinarySearchFunc__int (σ : St) (l : List Rp) (x : Int) (f : Nat) (caps : List AV) (hl : l.length ≤ 4611686018427387904) (hs : Asc (l.map Rp.nu))
  (hcb : ∀ h ∈ l, ∀ τ : St, τ.n = σ.n → (∀ k, k < σ.n → τ.ob k = σ.ob k) → HC prog f (rpv h :: .int .i64 x :: caps) τ (fun r τ' => r = .int .i64 (h.nu - x) ∧ τ' = τ)) :
  HC prog n_slices_BinarySearchFunc__int [.list 6 (rps l), .int .i64 x, .func f caps] σ (fun r τ => r = .tuple [.int .i64 (bsI (l.map Rp.nu) x), .bool (decide ((l.map Rp.nu)[bsI (l.map Rp.nu) x]? = some x))] ∧ τ.n = σ.n ∧ ∀ k, k < σ.n → τ.ob k = σ.ob k) := by
 obtain ⟨L, hL⟩ : ∃ L, L = l.map Rp.nu := ⟨_, rfl⟩
 have hLl : L.length = l.length := by simp [hL]
 rw [← hL] at hs ⊢
 refine HC_of_body b_slices_BinarySearchFunc__int (by simp) ?_
 simp only [c_slices_BinarySearchFunc__int, go_sem, jA, jB, jC, jD, jE, jF, jG, jH, jI, jJ, ↓reduceIte, reduceCtorEq, jP, rps_length]
 refine awp_loopF [9, 10, 11, 15, 16, 17, 18, 19, 20, 21, 22, 23, 24, 25, 26, 27, 28, 29, 30, 31, 32, 33, 34] (by kernel_rfl) (fun k e τ => (∀ k, k < σ.n → τ.ob k = σ.ob k) ∧ ∃ i j : Nat, e 9 = .int .i64 i ∧ e 10 = .int .i64 j ∧ i ≤ j ∧ j ≤ l.length ∧ k = j - i ∧ (∀ k, k < i → ∀ y, L[k]? = some y → y < x) ∧ (∀ k, j ≤ k → ∀ y, L[k]? = some y → x ≤ y)) l.length ?_ ?_
 ·exact ⟨fun _ _ => rfl, 0, l.length, (by first | rfl | (simp (disch := omega) only [go_sem, jA, jB, jC, jD, jE, jF, jG, jH, jI, jJ, ↓reduceIte, reduceCtorEq, jP, jO, jM, jN]; try rfl)), (by first | rfl | (simp (disch := omega) only [go_sem, jA, jB, jC, jD, jE, jF, jG, jH, jI, jJ, ↓reduceIte, reduceCtorEq, jP, jO, jM, jN]; try rfl)), by omega, by omega, by omega, fun k hk => by omega, fun k hk y hy => by have := (List.getElem?_eq_some_iff.1 hy).1; omega⟩
 ·rintro r fe ob c ⟨hτ, i, j, h9, h10, hij, hjl, rfl, hlo, hhi⟩
  simp (maxSteps := 1000000) only [go_sem, jA, jB, jC, jD, jE, jF, jG, jH, jI, jJ, ↓reduceIte, reduceCtorEq, jP] at h9 h10 hτ
  try simp (disch := omega) only [go_sem, jA, jB, jC, jD, jE, jF, jG, jH, jI, jJ, ↓reduceIte, reduceCtorEq, jO, jM, jN, jK, jL, h9, h10]
  refine cond_d (fun hlt => ?_) (fun hge => ?_)
  ·have hij2 : i < j := by omega
   try simp (disch := omega) only [go_sem, jA, jB, jC, jD, jE, jF, jG, jH, jI, jJ, ↓reduceIte, reduceCtorEq, jO, jM, jN, jK, jL, h9, h10, wrap_u64, bit_half, Option.some.injEq, exists_eq_left']
   generalize hm : (i + j) / 2 = m
   have hmi : ((i : Int) + j) / 2 = (m : Int) := by omega
   have hg : l[m]? = some l[m] := List.getElem?_eq_getElem (by omega)
   try simp (disch := omega) only [go_sem, jA, jB, jC, jD, jE, jF, jG, jH, jI, jJ, ↓reduceIte, reduceCtorEq, jO, jM, jN, jK, jL, hmi, h9, h10, rps_get, rps_length, hg, Option.map_some, rpv]
   repeat (refine And.intro (by first | omega | (rw [mxL]; omega) | (simp [maxLen]; done) | (simp [maxLen]; omega)) ?_)
   refine (hcb l[m] (List.getElem_mem _) ⟨ob, σ.n, c⟩ rfl hτ).mono ?_
   rintro _ _ ⟨rfl, rfl⟩
   have hgm : L[m]? = some l[m].nu := by simp [hL, hg]
   generalize l[m] = q at *
   try simp (disch := omega) only [go_sem, jA, jB, jC, jD, jE, jF, jG, jH, jI, jJ, ↓reduceIte, reduceCtorEq, jO, jM, jN, jK, jL, h9, h10]
   refine cond_d (fun hlt => ?_) (fun hge => ?_)
   ·try simp (disch := omega) only [go_sem, jA, jB, jC, jD, jE, jF, jG, jH, jI, jJ, ↓reduceIte, reduceCtorEq, jO, jM, jN, jK, jL, h9, h10]
    refine ⟨j - (m + 1), by omega, _, Nat.le_refl _, rfl, fun k hk => by try simp (disch := omega) only [go_sem, jA, jB, jC, jD, jE, jF, jG, jH, jI, jJ, ↓reduceIte, reduceCtorEq, jO, jM, jN, jK, jL]; exact hτ k hk, m + 1, j, (by first | rfl | (simp (disch := omega) only [go_sem, jA, jB, jC, jD, jE, jF, jG, jH, jI, jJ, ↓reduceIte, reduceCtorEq, jP, jO, jM, jN]; try rfl)), (by first | rfl | (simp (disch := omega) only [go_sem, jA, jB, jC, jD, jE, jF, jG, jH, jI, jJ, ↓reduceIte, reduceCtorEq, jP, jO, jM, jN]; try rfl)), by omega, by omega, by omega, fun k hk y hy => ?_, hhi⟩
    by_cases e : k = m
    ·subst e; rw [hgm] at hy; obtain rfl := Option.some.inj hy; omega
    ·have := hs k m (by omega) y _ hy hgm; omega
   ·try simp (disch := omega) only [go_sem, jA, jB, jC, jD, jE, jF, jG, jH, jI, jJ, ↓reduceIte, reduceCtorEq, jO, jM, jN, jK, jL, h9, h10]
    refine ⟨m - i, by omega, _, Nat.le_refl _, rfl, fun k hk => by try simp (disch := omega) only [go_sem, jA, jB, jC, jD, jE, jF, jG, jH, jI, jJ, ↓reduceIte, reduceCtorEq, jO, jM, jN, jK, jL]; exact hτ k hk, i, m, (by first | rfl | (simp (disch := omega) only [go_sem, jA, jB, jC, jD, jE, jF, jG, jH, jI, jJ, ↓reduceIte, reduceCtorEq, jP, jO, jM, jN]; try rfl)), (by first | rfl | (simp (disch := omega) only [go_sem, jA, jB, jC, jD, jE, jF, jG, jH, jI, jJ, ↓reduceIte, reduceCtorEq, jP, jO, jM, jN]; try rfl)), by omega, by omega, by omega, hlo, fun k hk y hy => ?_⟩
    by_cases e : k = m
    ·subst e; rw [hgm] at hy; obtain rfl := Option.some.inj hy; omega
    ·have := hs m k (by omega) _ y hgm hy; omega
  ·have hij2 : i = j := by omega
   subst hij2
   have hb := bsI_eq L x i (by omega) hlo hhi
   rw [hb]
   try simp (disch := omega) only [go_sem, jA, jB, jC, jD, jE, jF, jG, jH, jI, jJ, ↓reduceIte, reduceCtorEq, jO, jM, jN, jK, jL, h9, h10]
   refine gd_td rfl (fun h => ?_) (fun h => ?_)
   ·have hg : l[i]? = some l[i] := List.getElem?_eq_getElem (by omega)
    try simp (disch := omega) only [go_sem, jA, jB, jC, jD, jE, jF, jG, jH, jI, jJ, ↓reduceIte, reduceCtorEq, jO, jM, jN, jK, jL, h9, h10, rps_get, rps_length, hg, Option.map_some, rpv]
    repeat (refine And.intro (by first | omega | (rw [mxL]; omega) | (simp [maxLen]; done) | (simp [maxLen]; omega)) ?_)
    refine (hcb l[i] (List.getElem_mem _) ⟨ob, σ.n, c⟩ rfl hτ).mono ?_
    rintro _ _ ⟨rfl, rfl⟩
    try simp (disch := omega) only [go_sem, jA, jB, jC, jD, jE, jF, jG, jH, jI, jJ, ↓reduceIte, reduceCtorEq, jO, jM, jN, jK, jL, h9, h10]
    refine ⟨?_, hτ⟩
    have hgm : L[i]? = some l[i].nu := by simp [hL, hg]
    rw [hgm]
    simp only [Option.some.injEq]
    congr 3
    by_cases e : l[i].nu = x
    ·simp [e]
    ·have : ¬ l[i].nu - x = 0 := by omega
     simp [e, this]
   ·try simp (disch := omega) only [go_sem, jA, jB, jC, jD, jE, jF, jG, jH, jI, jJ, ↓reduceIte, reduceCtorEq, jO, jM, jN, jK, jL, h9, h10]
    refine ⟨?_, hτ⟩
    rw [List.getElem?_eq_none (by omega)]
    simp
theorem ok_revision_place__Report (B : Bk) (h : BkOK B) (r : Rp) (h1 : 1 ≤ r.nu) (h2 : r.nu ≤ 1073741824) : PC prog n_revision_place__Report [.list 6 (rps B.rp), rpv r, .func n_revision_File_1 []] (.tuple [.int .i64 (bsI (nus B.rp) r.nu), .bool (decide ((nus B.rp)[bsI (nus B.rp) r.nu]? = some r.nu))]) := by
 have hm := h.m
 refine PC_of_body b_revision_place__Report (by simp) ?_
 simp only [c_revision_place__Report, go_sem, jA, jB, jC, jD, jE, jF, jG, jH, jI, jJ, ↓reduceIte, reduceCtorEq, jP, rpv]
 try simp (disch := omega) only [go_sem, jA, jB, jC, jD, jE, jF, jG, jH, jI, jJ, ↓reduceIte, reduceCtorEq, jO, jM, jN, jK, jL]
 refine call_pc (ok_revision_File_1 r) (by simp [go_sem, rpv]) ?_
 try simp (disch := omega) only [go_sem, jA, jB, jC, jD, jE, jF, jG, jH, jI, jJ, ↓reduceIte, reduceCtorEq, jO, jM, jN, jK, jL]
 refine (hc_slices_BinarySearchFunc__int _ B.rp r.nu _ _ (by omega) (pw_asc h.asc) (fun q hq τ hn' hτ => ?_)).mono ?_
 ·have hb := h.ro q hq
  have q1 := hb.n1
  have q2 := hb.n2
  refine call_lent (ok_revision_place_1__Report r.nu q (by omega)) (.cons (.pure (by simp [go_sem, rpv])) (.cons (.pure rfl) (.cons ?_ .nil))) rfl ⟨rfl, rfl⟩
  have h0 : τ.ob 1 = some ⟨1, 1, 73, false, true, [.func n_revision_File_1 []]⟩ := hτ 1 (by simp [go_sem])
  refine .ptr h0 rfl rfl rfl (by simp) (fun i a b ha hb => ?_) (by simp [okE, go_sem])
  rw [ha] at hb
  obtain rfl := Option.some.inj hb
  cases i with
  | zero => simp at ha; subst ha; exact .pure rfl
  | succ i => simp at ha
 ·rintro _ τ ⟨rfl, _, _⟩
  try simp (disch := omega) only [go_sem, jA, jB, jC, jD, jE, jF, jG, jH, jI, jJ, ↓reduceIte, reduceCtorEq, jO, jM, jN, jK, jL]
  exact Pub.of_eq rfl rfl
theorem ok_revision_inserted__Report (l : List Rp) (i : Nat) (r : Rp) (hi : i ≤ l.length) (hl : l.length ≤ 4096) : PC prog n_revision_inserted__Report [.list 6 (rps l), .int .i64 i, rpv r] (.list 6 (rps (l.take i ++ r :: l.drop i))) := by
 refine PC_of_body b_revision_inserted__Report (by simp) ?_
 simp only [c_revision_inserted__Report, go_sem, jA, jB, jC, jD, jE, jF, jG, jH, jI, jJ, ↓reduceIte, reduceCtorEq, jP, rpv]
 try simp (disch := omega) only [go_sem, jA, jB, jC, jD, jE, jF, jG, jH, jI, jJ, ↓reduceIte, reduceCtorEq, jO, jM, jN, jK, jL]
 refine (hcl_slices_Clone__Report _ (rps l) (by rw [rps_length]; omega)).mono ?_
 rintro X ⟨ob, m, c⟩ ⟨id, g, rfl, hid, hidn, hob, hfr⟩
 simp only at hid hidn hob hfr
 have f0 := hfr 0 (by omega)
 try simp (disch := omega) only [go_sem, jA, jB, jC, jD, jE, jF, jG, jH, jI, jJ, ↓reduceIte, reduceCtorEq, jO, jM, jN, jK, jL] at f0
 try simp (disch := omega) only [go_sem, jA, jB, jC, jD, jE, jF, jG, jH, jI, jJ, ↓reduceIte, reduceCtorEq, jO, jM, jN, jK, jL, f0]
 have hI := hcL_slices_Insert__Report ⟨ob, m, c⟩ id g (rps l) (rpv r) i (by simp [okE, rpv, go_sem]) hob hidn (by rw [rps_length]; omega) (by rw [rps_length]; omega)
 rw [show (rps l).take i ++ rpv r :: (rps l).drop i = rps (l.take i ++ r :: l.drop i) by simp [rps]] at hI
 simp only [rpv] at hI
 refine hI.mono ?_
 rintro _ ⟨ob2, m2, c2⟩ ⟨id', g', rfl, hid', _, _, h1, hk⟩
 simp only at h1 hk
 have f2 := hk 0 (by omega) (by omega)
 try simp (disch := omega) only [go_sem, jA, jB, jC, jD, jE, jF, jG, jH, jI, jJ, ↓reduceIte, reduceCtorEq, jO, jM, jN, jK, jL]
 exact Pub.of_sl h1 rfl (rps_pur _) (rps_ok _)
end Go.Proofs.Try
