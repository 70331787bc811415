/- OWN WORK, put together by tools/asm.py, seat.py, mini.py. -/
import Derived.Test.YtkbpllahboofgaaLibE
set_option linter.unusedSimpArgs false
set_option linter.unusedVariables false
set_option maxRecDepth 100000
set_option maxHeartbeats 1000000
namespace Go.Proofs.Try
open Go.Ab Go
open Int renaming reduceEq → jA, reduceLT → jB, reduceLE → jC, reduceToNat → jD
open Go.Ab renaming w_ite_ne → jM, w_ite_lt → jN, wrap_id → jO, w_app_nl → jP
open Nat renaming reduceLT → jE, reduceEqDiff → jF, reduceAdd → jG, reduceLeDiff → jH, reduceSub → jI, reduceMul → jJ, sub_zero → jK, sub_self → jL
theorem ok_slices_Equal__Report (a b : List Rp) (ha : a.length ≤ 9223372036854775807) : PC prog n_slices_Equal__Report [.list 6 (rps a), .list 6 (rps b)] (.bool (decide (a = b))) := by
 refine PC_of_body b_slices_Equal__Report (by simp) ?_
 simp only [c_slices_Equal__Report, go_sem, jA, jB, jC, jD, jE, jF, jG, jH, jI, jJ, ↓reduceIte, reduceCtorEq, jP, rps_length]
 refine cond_n (fun h => ?_) (fun h => ?_) <;> try simp (disch := omega) only [go_sem, jA, jB, jC, jD, jE, jF, jG, jH, jI, jJ, ↓reduceIte, reduceCtorEq, jO, jM, jN, jK, jL]
 ·exact Pub.of_eq (by congr 1; simp; intro hab; exact h (by rw [hab])) rfl
 have hl : a.length = b.length := by omega
 refine awp_upF [4, 5, 13, 14, 15, 16, 17, 18, 19, 20, 21, 22, 23, 24, 25] (by kernel_rfl) a.length (fun k e _ => e 13 = .int .i64 k ∧ ∀ j, j < k → a[j]? = b[j]?) ?_ ?_
 ·exact ⟨(by first | rfl | (simp (disch := omega) only [go_sem, jA, jB, jC, jD, jE, jF, jG, jH, jI, jJ, ↓reduceIte, reduceCtorEq, jP, jO, jM, jN]; try rfl)), fun j hj => by omega⟩
 ·rintro k fe ob c hk ⟨h13, hj⟩
  simp (maxSteps := 1000000) only [go_sem, jA, jB, jC, jD, jE, jF, jG, jH, jI, jJ, ↓reduceIte, reduceCtorEq, jP] at h13
  try simp (disch := omega) only [go_sem, jA, jB, jC, jD, jE, jF, jG, jH, jI, jJ, ↓reduceIte, reduceCtorEq, jO, jM, jN, jK, jL, h13, rps_length]
  refine cond_d (fun hlt => ?_) (fun hge => ?_)
  ·have hka : k < a.length := by omega
   have hga : a[k]? = some a[k] := List.getElem?_eq_getElem hka
   have hgb : b[k]? = some b[k] := List.getElem?_eq_getElem (by omega)
   have hE := rp_eqb a[k] b[k]
   generalize a[k] = x at *
   generalize b[k] = y at *
   try simp (disch := omega) only [go_sem, jA, jB, jC, jD, jE, jF, jG, jH, jI, jJ, ↓reduceIte, reduceCtorEq, jO, jM, jN, jK, jL, h13, rps_length, rps_get, hga, hgb, Option.map_some, rpv]
   refine ⟨by omega, by omega, by omega, by omega, ?_⟩
   rw [hE]
   by_cases hxy : x = y
   ·subst hxy
    try simp (disch := omega) only [go_sem, jA, jB, jC, jD, jE, jF, jG, jH, jI, jJ, ↓reduceIte, reduceCtorEq, jO, jM, jN, jK, jL, decide_true, Bool.not_true, h13]
    refine up_next hka ⟨(by first | rfl | (simp (disch := omega) only [go_sem, jA, jB, jC, jD, jE, jF, jG, jH, jI, jJ, ↓reduceIte, reduceCtorEq, jP, jO, jM, jN]; try rfl)), fun j hj' => ?_⟩
    by_cases e : j = k
    ·subst e; rw [hga, hgb]
    ·exact hj j (by omega)
   ·try simp (disch := omega) only [go_sem, jA, jB, jC, jD, jE, jF, jG, jH, jI, jJ, ↓reduceIte, reduceCtorEq, jO, jM, jN, jK, jL, decide_false, Bool.not_false, hxy]
    exact Pub.of_eq (by congr 1; simp; intro hab; subst hab; rw [hga] at hgb; exact hxy (Option.some.inj hgb)) rfl
  ·try simp (disch := omega) only [go_sem, jA, jB, jC, jD, jE, jF, jG, jH, jI, jJ, ↓reduceIte, reduceCtorEq, jO, jM, jN, jK, jL]
   exact Pub.of_eq (by congr 1; simp; exact eq_of_get hl fun j hj' => hj j (by omega)) rfl
instance : DecidableEq Ac := fun a b => decidable_of_iff (sameA a b = true) sameA_iff
theorem ok_slices_EqualFunc__Account (a b : List Ac) (ha : a.length ≤ 9223372036854775807) (hA : ∀ x ∈ a, AcL x) :
  PC prog n_slices_EqualFunc__Account [.list 4 (acs a), .list 4 (acs b), .func n_ledger_Same []] (.bool (decide (a = b))) := by
 refine PC_of_body b_slices_EqualFunc__Account (by simp) ?_
 simp only [c_slices_EqualFunc__Account, go_sem, jA, jB, jC, jD, jE, jF, jG, jH, jI, jJ, ↓reduceIte, reduceCtorEq, jP, acs_length]
 refine cond_n (fun h => ?_) (fun h => ?_) <;> try simp (disch := omega) only [go_sem, jA, jB, jC, jD, jE, jF, jG, jH, jI, jJ, ↓reduceIte, reduceCtorEq, jO, jM, jN, jK, jL]
 ·exact Pub.of_eq (by congr 1; simp; intro hab; exact h (by rw [hab])) rfl
 have hl : a.length = b.length := by omega
 refine awp_upG [6, 7, 8, 9, 17, 18, 19, 20, 21, 22, 23, 24, 25, 26, 27, 28, 29, 30, 31] (by kernel_rfl) a.length (fun k e _ => e 17 = .int .i64 k ∧ ∀ j, j < k → a[j]? = b[j]?) ?_ ?_
 ·exact ⟨(by first | rfl | (simp (disch := omega) only [go_sem, jA, jB, jC, jD, jE, jF, jG, jH, jI, jJ, ↓reduceIte, reduceCtorEq, jP, jO, jM, jN]; try rfl)), fun j hj => by omega⟩
 ·rintro k fe ob m c hk hm ⟨h17, hj⟩
  simp (maxSteps := 1000000) only [go_sem, jA, jB, jC, jD, jE, jF, jG, jH, jI, jJ, ↓reduceIte, reduceCtorEq, jP] at h17 hm
  try simp (disch := omega) only [go_sem, jA, jB, jC, jD, jE, jF, jG, jH, jI, jJ, ↓reduceIte, reduceCtorEq, jO, jM, jN, jK, jL, h17, acs_length]
  refine cond_d (fun hlt => ?_) (fun hge => ?_)
  ·have hka : k < a.length := by omega
   have hga : a[k]? = some a[k] := List.getElem?_eq_getElem hka
   have hgb : b[k]? = some b[k] := List.getElem?_eq_getElem (by omega)
   have hS := ok_ledger_Same a[k] b[k] (hA _ (List.getElem_mem hka))
   generalize a[k] = x at *
   generalize b[k] = y at *
   simp only [acv] at hS
   try simp (disch := omega) only [go_sem, jA, jB, jC, jD, jE, jF, jG, jH, jI, jJ, ↓reduceIte, reduceCtorEq, jO, jM, jN, jK, jL, h17, acs_length, acs_get, hga, hgb, Option.map_some, acv]
   refine ⟨by omega, by omega, by omega, by omega, ?_⟩
   refine call_pc hS (by simp [go_sem, bds_pur]) ?_
   cases hq : sameA x y
   ·try simp (disch := omega) only [go_sem, jA, jB, jC, jD, jE, jF, jG, jH, jI, jJ, ↓reduceIte, reduceCtorEq, jO, jM, jN, jK, jL]
    exact Pub.of_eq (by congr 1; simp; intro hab; subst hab; rw [hga] at hgb; obtain rfl := Option.some.inj hgb; rw [sameA_iff.2 rfl] at hq; cases hq) rfl
   ·obtain rfl := sameA_iff.1 hq
    try simp (disch := omega) only [go_sem, jA, jB, jC, jD, jE, jF, jG, jH, jI, jJ, ↓reduceIte, reduceCtorEq, jO, jM, jN, jK, jL, h17]
    refine up_nextG m hka (by omega) ⟨(by first | rfl | (simp (disch := omega) only [go_sem, jA, jB, jC, jD, jE, jF, jG, jH, jI, jJ, ↓reduceIte, reduceCtorEq, jP, jO, jM, jN]; try rfl)), fun j hj' => ?_⟩
    by_cases e : j = k
    ·subst e; rw [hga, hgb]
    ·exact hj j (by omega)
  ·try simp (disch := omega) only [go_sem, jA, jB, jC, jD, jE, jF, jG, jH, jI, jJ, ↓reduceIte, reduceCtorEq, jO, jM, jN, jK, jL]
   exact Pub.of_eq (by congr 1; simp; exact eq_of_get hl fun j hj' => hj j (by omega)) rfl
instance : DecidableEq Bk := fun a b => decidable_of_iff (a.op = b.op ∧ a.rp = b.rp) (by cases a; cases b; simp)
theorem ok_revision_Same (A B : Bk) (ha : A.op.length ≤ 9223372036854775807) (hA : ∀ x ∈ A.op, AcL x) (hr : A.rp.length ≤ 9223372036854775807) : PC prog n_revision_Same [bkv A, bkv B] (.bool (decide (A = B))) := by
 obtain ⟨o, r⟩ := A
 obtain ⟨o', r'⟩ := B
 refine PC_of_body b_revision_Same (by simp) ?_
 simp only [c_revision_Same, go_sem, jA, jB, jC, jD, jE, jF, jG, jH, jI, jJ, ↓reduceIte, reduceCtorEq, jP, bkv]
 try simp (disch := omega) only [go_sem, jA, jB, jC, jD, jE, jF, jG, jH, jI, jJ, ↓reduceIte, reduceCtorEq, jO, jM, jN, jK, jL]
 refine call_pc (ok_slices_EqualFunc__Account o o' ha hA) (by simp [go_sem, acs_pur]) ?_
 by_cases h1 : o = o'
 ·subst h1
  try simp (disch := omega) only [go_sem, jA, jB, jC, jD, jE, jF, jG, jH, jI, jJ, ↓reduceIte, reduceCtorEq, jO, jM, jN, jK, jL, decide_true]
  refine call_pc (ok_slices_Equal__Report r r' hr) (by simp [go_sem, rps_pur]) ?_
  try simp (disch := omega) only [go_sem, jA, jB, jC, jD, jE, jF, jG, jH, jI, jJ, ↓reduceIte, reduceCtorEq, jO, jM, jN, jK, jL]
  exact Pub.of_eq (by simp) rfl
 ·try simp (disch := omega) only [go_sem, jA, jB, jC, jD, jE, jF, jG, jH, jI, jJ, ↓reduceIte, reduceCtorEq, jO, jM, jN, jK, jL, h1, decide_false]
  exact Pub.of_eq (by simp [h1]) rfl
theorem app_fl {es b : Nat} {ty : TypeId} {l0 l : List AV} {σ : St} {K : AV → St → Prop} (hp : ∀ z ∈ l0 ++ l, z.pur = true) (h1 : l0.length + l.length ≤ 9223372036854775807) (h2 : (l0.length + l.length) * b ≤ 140737488355328) (k : K (.list es (l0 ++ l)) σ) :
  appC es b ty (.fl es l0) (.list es l) σ K :=
 ⟨fun _ _ h => by cases h; rfl, fun _ _ _ _ _ h => (by rcases h with h | ⟨_, h⟩ <;> cases h), rfl, hp, by rw [mxL]; exact h1, h2, k⟩
section
variable {es : Nat} {ty ty' : TypeId} {σ : St} {L : List AV} {X : AV}
theorem len_slr {C : AV → St → Prop} {τ : St} (h : SlR es ty σ L X) : lenC X τ C = C (.int .i64 (L.length : Int)) τ := by
 rcases h with ⟨rfl, rfl⟩ | ⟨id, g, rfl, _, _⟩
 ·rw [w_len_n]; rfl
 ·rw [w_len_s]
theorem app_nil_slr {b : Nat} {K : AV → St → Prop} (h : SlR es ty' σ L X) (hm : L.length ≤ 9223372036854775807) (hb : L.length * b ≤ 140737488355328)
  (k : ∀ X' τ, SlR es ty τ L X' → Kp σ .nil τ X' → K X' τ) : appC es b ty .nil X σ K := by
 have hfin : ∀ l : List AV, l = L → l.length ≤ maxLen ∧ l.length * b ≤ 140737488355328 ∧ (l = [] → K .nil σ) ∧ (l ≠ [] → K (.sl σ.n σ.c es 0 l.length) (σ.push es ty l)) := by
  rintro l rfl
  refine ⟨by rw [mxL]; exact hm, hb, fun e => k _ _ (.inl ⟨rfl, e⟩) ⟨Nat.le_refl _, fun _ _ _ => rfl, fun _ _ h => h⟩, fun _ => k _ _ (.inr ⟨σ.n, σ.c, rfl, Nat.lt_succ_self _, by simp [St.push, upd]⟩) ⟨Nat.le_succ _, fun i hi _ => ?_, fun i hi _ => Oth.sl (by omega)⟩⟩
  simp only [St.push]; rw [upd_ne _ _ _ _ (by omega)]
 rcases h with ⟨rfl, rfl⟩ | ⟨id, g, rfl, h2, h3⟩
 ·exact ⟨fun _ _ h => (by cases h), fun _ _ _ _ _ h => (by rcases h with h | ⟨_, h⟩ <;> cases h), hfin [] rfl⟩
 ·refine ⟨fun _ _ h => (by cases h), fun _ _ _ _ _ h => (by rcases h with h | ⟨_, h⟩ <;> cases h; rfl), ?_⟩
  exact ⟨_, h3, rfl, rfl, by simp, hfin _ (by simp)⟩
theorem mvs_slr {K : AV → St → Prop} (h : SlR es ty σ L X) (hp : ∀ z ∈ L, z.pur = true)
  (k : ∀ X' τ, ((X' = .nil ∧ L = []) ∨ X' = .list es L) → τ.n = σ.n → (∀ i, Oth X i → τ.ob i = σ.ob i) → K X' τ) : mvsC X σ K := by
 rcases h with ⟨rfl, rfl⟩ | ⟨id, g, rfl, h2, h3⟩
 ·exact k _ _ (.inl ⟨rfl, rfl⟩) rfl fun _ _ => rfl
 ·have e : (L.drop 0).take L.length = L := by simp
  refine ⟨_, h3, rfl, rfl, by simp, by simp only; rw [e]; exact hp, ?_⟩
  simp only
  rw [e]
  exact k _ _ (.inr rfl) rfl fun i hi => by simp only; rw [upd_ne _ _ _ _ (fun e => hi.ne e.symm)]
end
theorem rep_ok {op : List Ac} {q : Rp} {i n : Nat} (hi : i < op.length) (q1 : q.nu = 3 * (n : Int) + 1) (hn : n ≤ 100) (q2 : q.ac = (i : Int)) (q3 : RpA (gA op i) q) : RpOK op q :=
 ⟨by omega, by omega, by omega, by omega, by rw [q2, Int.toNat_natCast]; exact q3⟩
structure Mk (op : List Ac) (l : List Rp) : Prop where
 ok : ∀ q ∈ l, RpOK op q
 nu : ∀ q ∈ l, q.nu < 3 * (l.length : Int) + 1
 pw : l.Pairwise fun a b => a.nu ≠ b.nu
theorem Mk.nil (op : List Ac) : Mk op [] := ⟨fun q h => by simp at h, fun q h => by simp at h, by simp⟩
theorem Mk.snoc {op : List Ac} {l : List Rp} {q : Rp} (h : Mk op l) (hq : RpOK op q) (hn : q.nu = 3 * (l.length : Int) + 1) : Mk op (l ++ [q]) := by
 refine ⟨fun x hx => ?_, fun x hx => ?_, ?_⟩
 ·rcases List.mem_append.1 hx with h1 | h1
  ·exact h.ok x h1
  ·simp at h1; subst h1; exact hq
 ·rw [List.length_append, List.length_singleton]
  rcases List.mem_append.1 hx with h1 | h1
  ·have := h.nu x h1; omega
  ·simp at h1; subst h1; omega
 ·rw [List.pairwise_append]
  refine ⟨h.pw, by simp, fun a ha b hb => ?_⟩
  simp at hb
  subst hb
  have := h.nu a ha
  omega
theorem rps_snoc (l : List Rp) (q : Rp) : rps (l ++ [q]) = rps l ++ [.agg [.int .i64 q.nu, .int .i64 q.ac, .int .i64 q.fd, .int .i64 q.tm, .int .i64 q.b.lo, .int .i64 q.b.hi]] := by simp [rps, rpv]
def BkX (z : Bk) (X : AV) : Prop := (X = .nil ∧ z.rp = []) ∨ X = .list 6 (rps z.rp)
theorem BkX.fl {z : Bk} {X : AV} (h : BkX z X) : X.flat = true ∧ X.cells = [X] ∧ X.one = true := by rcases h with ⟨rfl, _⟩ | rfl <;> exact ⟨rfl, rfl, rfl⟩
theorem BkX.pur {z : Bk} {X : AV} (h : BkX z X) : X.pur = true := by rcases h with ⟨rfl, _⟩ | rfl <;> simp [go_sem, rps_pur]
theorem BkX.pur1 {z : Bk} {X : AV} (h : BkX z X) : X.pur1 = true := by rcases h with ⟨rfl, _⟩ | rfl <;> simp [go_sem, rps_pur]
theorem BkX.nlr {z : Bk} {X : AV} (h : BkX z X) : NlR (.agg [.list 4 (acs z.op), X]) (bkv z) := by
 refine .agg (.cons .rfl (.cons ?_ .nil))
 rcases h with ⟨rfl, h⟩ | rfl
 ·rw [h]; exact .nil 6
 ·exact .rfl
theorem BkX.len {z : Bk} {X : AV} {C : AV → St → Prop} {τ : St} (h : BkX z X) : lenC X τ C = C (.int .i64 (z.rp.length : Int)) τ := by
 rcases h with ⟨rfl, h⟩ | rfl
 ·rw [h, w_len_n]; rfl
 ·rw [w_len_l, rps_length]
set_option maxHeartbeats 8000000 in
theorem ok_law31_RevisionOrder (t : List Int) : PC prog n_law31_RevisionOrder [.list 1 (ints t)] (.bool true) := by
 refine PC_of_body b_law31_RevisionOrder (by simp) ?_
 simp only [c_law31_RevisionOrder, go_sem, jA, jB, jC, jD, jE, jF, jG, jH, jI, jJ, ↓reduceIte, reduceCtorEq, jP]
 try simp (disch := omega) only [go_sem, jA, jB, jC, jD, jE, jF, jG, jH, jI, jJ, ↓reduceIte, reduceCtorEq, jO, jM, jN, jK, jL]
 refine call_pc ok_law31_sane (by simp) ?_
 try simp (disch := omega) only [go_sem, jA, jB, jC, jD, jE, jF, jG, jH, jI, jJ, ↓reduceIte, reduceCtorEq, jO, jM, jN, jK, jL]
 refine call_pc (ok_mk_Few t) (by simp [go_sem]) ?_
 try simp (disch := omega) only [go_sem, jA, jB, jC, jD, jE, jF, jG, jH, jI, jJ, ↓reduceIte, reduceCtorEq, jO, jM, jN, jK, jL]
 cases hfew : fewB t
 ·try simp (disch := omega) only [go_sem, jA, jB, jC, jD, jE, jF, jG, jH, jI, jJ, ↓reduceIte, reduceCtorEq, jO, jM, jN, jK, jL]
  exact Pub.of_eq rfl rfl
 have hlt : t.length ≤ 9223372036854775807 := by simp [fewB] at hfew; omega
 try simp (disch := omega) only [go_sem, jA, jB, jC, jD, jE, jF, jG, jH, jI, jJ, ↓reduceIte, reduceCtorEq, jO, jM, jN, jK, jL]
 refine call_hc (ok_mk_New _ t) ?_
 try simp (disch := omega) only [go_sem, jA, jB, jC, jD, jE, jF, jG, jH, jI, jJ, ↓reduceIte, reduceCtorEq, jO, jM, jN, jK, jL]
 refine (hc_flow_Book _ 0 0 t 0 hlt (by simp only [St.push]; omega) (by try simp (disch := omega) only [go_sem, jA, jB, jC, jD, jE, jF, jG, jH, jI, jJ, ↓reduceIte, reduceCtorEq, jO, jM, jN, jK, jL])).mono ?_
 intro r τ hD
 obtain ⟨⟨B, T, rfl, hTB⟩, hn, ⟨at1, hd1⟩, -⟩ := hD.use (by simp only [St.push]; omega)
 obtain ⟨ob, m, c⟩ := τ
 simp only [St.push] at hn
 subst hn
 simp only at hd1
 clear hD
 have hTn := hTB.len
 have hop1 := hTB.n1
 have hop2 := hTB.n2
 have hTr := hTB.tr
 have hB0 : BkOK ⟨B.op, []⟩ := ⟨hTB.ok.n, hTB.ok.ao, by simp, by simp, fun r hr => by simp at hr⟩
 obtain ⟨op, rp0⟩ := B
 simp only at hTn hop1 hop2 hTr hB0
 try simp (disch := omega) only [go_sem, jA, jB, jC, jD, jE, jF, jG, jH, jI, jJ, ↓reduceIte, reduceCtorEq, jO, jM, jN, jK, jL, bkv]
 refine call_hc (ok_mk_Deck_Next _ 0 0 ty_Deck true t at1 8 (by try simp (disch := omega) only [go_sem, jA, jB, jC, jD, jE, jF, jG, jH, jI, jJ, ↓reduceIte, reduceCtorEq, jO, jM, jN, jK, jL]; exact hd1) (by omega) hlt) ?_
 have hx2 := deckR_bd t at1 8
 generalize deckR t at1 8 = dr at *
 obtain ⟨x2, at2⟩ := dr
 simp only at hx2
 try simp (disch := omega) only [go_sem, jA, jB, jC, jD, jE, jF, jG, jH, jI, jJ, ↓reduceIte, reduceCtorEq, jO, jM, jN, jK, jL]
 obtain ⟨K, hK⟩ : ∃ K : Nat, (K : Int) = x2 ∧ K ≤ 7 := ⟨x2.toNat, by omega, by omega⟩
 obtain ⟨rfl, hK⟩ := hK
 refine awp_upG [6, 7, 8, 36, 37, 38, 39, 40, 41, 42, 43, 44, 45, 46, 47, 48, 49, 50, 51, 52, 53, 54, 55, 56, 57, 58, 59, 60, 61, 62] (by kernel_rfl) K (fun k e σ => e 7 = .int .i64 ((K : Int) - k) ∧ (∃ a, σ.ob 0 = some ⟨0, 2, ty_Deck, false, true, [deckV t a]⟩) ∧ σ.ob 1 = some ⟨c, 2, 30, false, true, [.agg [.list 4 (acs op), .nil]]⟩ ∧
   ∃ L, L.length = k ∧ Mk op L ∧ SlR 6 37 σ (rps L) (e 6) ∧ (∀ i, i < 2 → Oth (e 6) i)) ?_ ?_
 ·refine ⟨(by first | rfl | (simp (disch := omega) only [go_sem, jA, jB, jC, jD, jE, jF, jG, jH, jI, jJ, ↓reduceIte, reduceCtorEq, jP, jO, jM, jN]; try rfl)), ⟨at2, by try simp (disch := omega) only [go_sem, jA, jB, jC, jD, jE, jF, jG, jH, jI, jJ, ↓reduceIte, reduceCtorEq, jO, jM, jN, jK, jL]⟩, by try simp (disch := omega) only [go_sem, jA, jB, jC, jD, jE, jF, jG, jH, jI, jJ, ↓reduceIte, reduceCtorEq, jO, jM, jN, jK, jL], [], rfl, Mk.nil _, ?_, ?_⟩
  ·try simp (disch := omega) only [go_sem, jA, jB, jC, jD, jE, jF, jG, jH, jI, jJ, ↓reduceIte, reduceCtorEq, jO, jM, jN, jK, jL]
   exact SlR.nil
  ·try simp (disch := omega) only [go_sem, jA, jB, jC, jD, jE, jF, jG, jH, jI, jJ, ↓reduceIte, reduceCtorEq, jO, jM, jN, jK, jL]
   exact fun i _ => Oth.nil i
 rintro k fe ob1 m1 c1 hk hm ⟨h7, ⟨at3, hd⟩, u0, L, hL, hMk, r6, o6⟩
 simp (maxSteps := 1000000) only [go_sem, jA, jB, jC, jD, jE, jF, jG, jH, jI, jJ, ↓reduceIte, reduceCtorEq, jP] at h7 hd u0 r6 o6 hm
 obtain ⟨X6, h6⟩ : ∃ X, fe 6 = X := ⟨_, rfl⟩
 rw [h6] at r6 o6
 try simp (disch := omega) only [go_sem, jA, jB, jC, jD, jE, jF, jG, jH, jI, jJ, ↓reduceIte, reduceCtorEq, jO, jM, jN, jK, jL, h7]
 refine cond_d (fun hge => ?_) (fun hlt1 => ?_)
 ·have hkl : k < K := by omega
  try simp (disch := omega) only [go_sem, jA, jB, jC, jD, jE, jF, jG, jH, jI, jJ, ↓reduceIte, reduceCtorEq, jO, jM, jN, jK, jL, trs_length, hTn]
  refine call_hc (ok_mk_Deck_Next _ 0 0 ty_Deck true t at3 _ hd (by omega) hlt) ?_
  have hx7 := deckR_bd t at3 (op.length : Int)
  generalize deckR t at3 (op.length : Int) = dr at *
  obtain ⟨x7, at7⟩ := dr
  simp only at hx7
  obtain ⟨i, hi⟩ : ∃ i : Nat, (i : Int) = x7 ∧ i < op.length := ⟨x7.toNat, by omega, by omega⟩
  obtain ⟨rfl, hi⟩ := hi
  have eA := gA_get (l := op) (i := i) (by omega)
  have eT := gT_get (l := T) (i := i) (by omega)
  have hTi := hTr i hi
  try simp (disch := omega) only [go_sem, jA, jB, jC, jD, jE, jF, jG, jH, jI, jJ, ↓reduceIte, reduceCtorEq, jO, jM, jN, jK, jL, len_slr r6, h6, u0, acs_length, trs_length, rps_length, acs_get, trs_get, eA, eT, Option.map_some, hTn, acv, trv]
  refine ⟨by omega, by omega, by omega, by omega, ?_⟩
  refine (hc_flow_Report _ 0 0 t at7 (gA op i) (gT T i) hTi i (3 * (L.length : Int) + 1) hlt (by simp only; omega) (by try simp (disch := omega) only [go_sem, jA, jB, jC, jD, jE, jF, jG, jH, jI, jJ, ↓reduceIte, reduceCtorEq, jO, jM, jN, jK, jL])).mono ?_
  intro r' τ hDR
  obtain ⟨⟨q, rfl, q1, q2, q3, q4, q5⟩, hn9, ⟨at9, hd9⟩, hf9⟩ := hDR.use (by simp only; omega)
  obtain ⟨ob9, m9, c9⟩ := τ
  simp only at hn9 hd9 hf9
  subst hn9
  have hl7 : (rps L).length ≤ 7 := by rw [rps_length]; omega
  have v1 := hf9 1 (by omega) (by omega)
  try simp (disch := omega) only [go_sem, jA, jB, jC, jD, jE, jF, jG, jH, jI, jJ, ↓reduceIte, reduceCtorEq, jO, jM, jN, jK, jL, u0] at v1
  try simp (disch := omega) only [go_sem, jA, jB, jC, jD, jE, jF, jG, jH, jI, jJ, ↓reduceIte, reduceCtorEq, jO, jM, jN, jK, jL, rpv]
  refine app_slr (b := 48) (r6.move (by simp only; omega) fun j hj hno => ?_) (by omega) (by omega) fun Y τ hR hK6 => ?_
  ·have : j ≠ 0 := fun e => hno (e ▸ o6 0 (by omega))
   exact (hf9 j hj this).trans (upd_ne _ _ _ _ this)
  rw [← rps_snoc] at hR
  have hn6 := hK6.1
  simp only at hn6
  try simp (disch := omega) only [go_sem, jA, jB, jC, jD, jE, jF, jG, jH, jI, jJ, ↓reduceIte, reduceCtorEq, jO, jM, jN, jK, jL, h7]
  refine up_nextG τ.n hkl (by omega) ⟨by try simp (disch := omega) only [go_sem, jA, jB, jC, jD, jE, jF, jG, jH, jI, jJ, ↓reduceIte, reduceCtorEq, jO, jM, jN, jK, jL]; congr 1; omega, ⟨at9, ?_⟩, ?_, L ++ [q], by simp [hL], hMk.snoc (rep_ok hi q1 (by omega) q2 q3) q1, ?_, ?_⟩
  ·simp only [St.trunc]; rw [if_pos (by omega), hK6.2.1 0 (by simp only; omega) (o6 0 (by omega))]; exact hd9
  ·simp only [St.trunc]; rw [if_pos (by omega), hK6.2.1 1 (by simp only; omega) (o6 1 (by omega))]; exact v1
  ·try simp (disch := omega) only [go_sem, jA, jB, jC, jD, jE, jF, jG, jH, jI, jJ, ↓reduceIte, reduceCtorEq, jO, jM, jN, jK, jL]
   exact hR.move (Nat.le_refl _) fun i hi _ => by simp [St.trunc, hi]
  ·try simp (disch := omega) only [go_sem, jA, jB, jC, jD, jE, jF, jG, jH, jI, jJ, ↓reduceIte, reduceCtorEq, jO, jM, jN, jK, jL]
   exact fun i hi => hK6.2.2 i (by simp only; omega) (o6 i hi)
 obtain rfl : k = K := by omega
 clear hlt1 h7 hx2
 have m0 : ¬ (1 : Nat) = m1 := by omega
 have m00 : ¬ (0 : Nat) = m1 := by omega
 try simp (disch := omega) only [go_sem, jA, jB, jC, jD, jE, jF, jG, jH, jI, jJ, ↓reduceIte, reduceCtorEq, jO, jM, jN, jK, jL, u0, h6, len_slr r6, rps_length]
 have hX6 : ∀ {ob' : Nat → Option AObj} {c' : Nat} {n' : Nat}, m1 ≤ n' → (∀ i, i < m1 → ob' i = ob1 i) → SlR 6 37 ⟨ob', n', c'⟩ (rps L) X6 := fun hn hf => r6.move hn fun i hi _ => hf i hi
 have hO0 := OI.start hB0 hMk.pw
 have hok := hMk.ok
 have hAL : ∀ x ∈ op, AcL x := fun x hx => (hTB.ok.ao x hx).l
 refine awp_upG [2, 11, 12, 13, 66, 67, 68, 69, 70, 71, 72, 73, 74, 75, 76, 77, 78, 79] (by kernel_rfl) L.length (fun k e σ => e 66 = .int .i64 k ∧ m1 + 1 ≤ σ.n ∧ (∀ i, i < m1 → σ.ob i = ob1 i) ∧ ∃ z XR, σ.ob m1 = some ⟨c1, 2, 30, false, true, [.agg [.list 4 (acs op), XR]]⟩ ∧ OI op L z (L.drop k) ∧ BkX z XR) ?_ ?_
 ·refine ⟨(by first | rfl | (simp (disch := omega) only [go_sem, jA, jB, jC, jD, jE, jF, jG, jH, jI, jJ, ↓reduceIte, reduceCtorEq, jP, jO, jM, jN]; try rfl)), Nat.le_refl _, fun i hi => ?_, ⟨op, []⟩, .nil, ?_, hO0, .inl ⟨rfl, rfl⟩⟩
  ·have : ¬ i = m1 := by omega
   try simp (disch := omega) only [go_sem, jA, jB, jC, jD, jE, jF, jG, jH, jI, jJ, ↓reduceIte, reduceCtorEq, jO, jM, jN, jK, jL, this]
  ·try simp (disch := omega) only [go_sem, jA, jB, jC, jD, jE, jF, jG, jH, jI, jJ, ↓reduceIte, reduceCtorEq, jO, jM, jN, jK, jL]
 rintro k2 fe2 ob2 m2 c2 hk2 hm2 ⟨h66, hn2, hf2, z, XR, w1, hO, hXR⟩
 simp (maxSteps := 1000000) only [go_sem, jA, jB, jC, jD, jE, jF, jG, jH, jI, jJ, ↓reduceIte, reduceCtorEq, jP] at h66 hn2 hf2 w1 hm2
 try simp (disch := omega) only [go_sem, jA, jB, jC, jD, jE, jF, jG, jH, jI, jJ, ↓reduceIte, reduceCtorEq, jO, jM, jN, jK, jL, h66]
 refine cond_d (fun hlt2 => ?_) (fun hge2 => ?_)
 ·have hkl : k2 < L.length := by omega
  have hLk : L[k2]? = some L[k2] := List.getElem?_eq_getElem hkl
  have hL0 : (L.drop k2)[0]? = some L[k2] := by rw [List.getElem?_drop, Nat.add_zero]; exact hLk
  obtain ⟨w, f1, f2, hOw⟩ := hO.step (by omega) hok hL0
  have hFl := ok_revision_File z hO.ok L[k2] (hO.op.symm ▸ hok _ (List.getElem_mem hkl))
  rw [f1] at hFl
  have hzop := hO.op
  have hwop := hOw.op
  have hOw : OI op L w (L.drop (k2 + 1)) := by simp only [List.take_zero, List.nil_append, List.drop_drop] at hOw; exact hOw
  rcases r6 with ⟨-, hnil⟩ | ⟨a6, g6, rfl, ha6, w6⟩
  ·have := rps_length L; rw [hnil] at this; simp at this; omega
  simp only at ha6 w6
  have w6' := (hf2 a6 ha6).trans w6
  generalize L[k2] = r at *
  obtain ⟨x1f, x1c, x1o⟩ := hXR.fl
  have hnl := hXR.nlr
  have b1 : ¬ a6 = m2 := by omega
  have b2 : ¬ m1 = m2 := by omega
  have b3 : ¬ m1 = m2 + 1 := by omega
  rw [hzop] at hnl
  try simp (disch := omega) only [go_sem, jA, jB, jC, jD, jE, jF, jG, jH, jI, jJ, ↓reduceIte, reduceCtorEq, jO, jM, jN, jK, jL, h66, w6', rps_length, rps_get, hLk, Option.map_some, rpv, b1, b2, b3, w1, x1f, x1c, x1o]
  refine ⟨by omega, by omega, ?_⟩
  refine call_pc (pc_nl hFl (.cons hnl (NlRs.refl _))) (by simp [go_sem, acs_pur, hXR.pur, hXR.pur1]) ?_
  try simp (disch := omega) only [go_sem, jA, jB, jC, jD, jE, jF, jG, jH, jI, jJ, ↓reduceIte, reduceCtorEq, jO, jM, jN, jK, jL, bkv, hwop, b1, b2, b3, w1, x1f, x1c, x1o]
  refine up_nextG m2 hkl (by omega) ⟨(by first | rfl | (simp (disch := omega) only [go_sem, jA, jB, jC, jD, jE, jF, jG, jH, jI, jJ, ↓reduceIte, reduceCtorEq, jP, jO, jM, jN]; try rfl)), by simp only [St.trunc]; omega, fun i hi => ?_, w, .list 6 (rps w.rp), ?_, hOw, .inr rfl⟩
  ·simp only [St.trunc]; rw [if_pos (by omega)]; repeat rw [upd_ne _ _ _ _ (by omega)]
   exact hf2 i hi
  ·simp only [St.trunc]; rw [if_pos (by omega)]; simp [upd]
 obtain rfl : k2 = L.length := by omega
 clear hge2 h66 hk2
 rw [List.drop_length] at hO
 have u1 := (hf2 1 (by omega)).trans u0
 have b1 : ¬ (1 : Nat) = m2 := by omega
 have b2 : ¬ m1 = m2 := by omega
 try simp (disch := omega) only [go_sem, jA, jB, jC, jD, jE, jF, jG, jH, jI, jJ, ↓reduceIte, reduceCtorEq, jO, jM, jN, jK, jL, u1, h6]
 refine app_nil_slr (ty' := 37) (hX6 (by omega) fun i hi => ?_) (by rw [rps_length]; omega) (by rw [rps_length]; omega) fun Y τ hY hKY => ?_
 ·rw [upd_ne _ _ _ _ (by omega), upd_ne _ _ _ _ (by omega)]; exact hf2 i hi
 try simp (disch := omega) only [go_sem, jA, jB, jC, jD, jE, jF, jG, jH, jI, jJ, ↓reduceIte, reduceCtorEq, jO, jM, jN, jK, jL]
 refine mvs_slr hY (rps_pur L) fun R τ2 hR hnR hfR => ?_
 have hO2 : ∀ i, i < m2 + 1 → Oth Y i := fun i hi => hKY.2.2 i (by simp only; omega) (Oth.nil i)
 have hf3 : ∀ i, i < m2 + 1 → τ2.ob i = _ := fun i hi => (hfR i (hO2 i hi)).trans (hKY.2.1 i (by simp only; omega) (Oth.nil i))
 have hn3 : m2 + 1 ≤ τ2.n := by rw [hnR]; exact hKY.1
 have d0 := hf3 0 (by omega)
 have d1 := hf3 m1 (by omega)
 have d2 := hf3 m2 (by omega)
 have a0 := (hf2 0 (by omega)).trans hd
 have b0 : ¬ (0 : Nat) = m2 := by omega
 try simp (disch := omega) only [go_sem, jA, jB, jC, jD, jE, jF, jG, jH, jI, jJ, ↓reduceIte, reduceCtorEq, jO, jM, jN, jK, jL, b0, a0] at d0
 try simp (disch := omega) only [go_sem, jA, jB, jC, jD, jE, jF, jG, jH, jI, jJ, ↓reduceIte, reduceCtorEq, jO, jM, jN, jK, jL, b2, w1] at d1
 try simp (disch := omega) only [go_sem, jA, jB, jC, jD, jE, jF, jG, jH, jI, jJ, ↓reduceIte, reduceCtorEq, jO, jM, jN, jK, jL] at d2
 have hR : BkX ⟨op, L⟩ R := hR.elim (fun h => .inl ⟨h.1, by have := congrArg List.length h.2; simpa [rps] using this⟩) .inr
 clear hf3 hO2 hfR hnR hKY hY
 obtain ⟨ob3, m3, c3⟩ := τ2
 simp only at d0 d1 d2 hn3
 try simp (disch := omega) only [go_sem, jA, jB, jC, jD, jE, jF, jG, jH, jI, jJ, ↓reduceIte, reduceCtorEq, jO, jM, jN, jK, jL]
 refine awp_upG [2, 15, 16, 17, 18, 19, 20, 83, 84, 85, 86, 87, 88, 89, 90, 91, 92, 93, 94, 95, 96, 97, 98, 99, 100, 101, 102, 103, 104, 105, 106, 107, 108, 109, 110, 111, 112, 113, 114, 115, 116, 117, 118, 119, 120, 121, 122, 123, 124, 125, 126, 127, 128, 129] (by kernel_rfl) L.length (fun k e σ => m2 + 1 ≤ σ.n ∧ (∃ a, σ.ob 0 = some ⟨0, 2, ty_Deck, false, true, [deckV t a]⟩) ∧ σ.ob m1 = some ⟨c1, 2, 30, false, true, [.agg [.list 4 (acs op), XR]]⟩ ∧
   ∃ rest zz XZ, BkX ⟨op, rest⟩ (e 15) ∧ rest.length + k = L.length ∧ σ.ob m2 = some ⟨c2, 2, 30, false, true, [.agg [.list 4 (acs op), XZ]]⟩ ∧ OI op L zz rest ∧ BkX zz XZ) ?_ ?_
 ·refine ⟨hn3, ⟨at3, d0⟩, d1, L, ⟨op, []⟩, .nil, ?_, by omega, d2, hO0, .inl ⟨rfl, rfl⟩⟩
  try simp (disch := omega) only [go_sem, jA, jB, jC, jD, jE, jF, jG, jH, jI, jJ, ↓reduceIte, reduceCtorEq, jO, jM, jN, jK, jL]
  exact hR
 clear hR d0 d1 d2 hn3
 rintro k3 fe3 ob4 m4 c4 hk3 hm4 ⟨hn4, ⟨at4, d0⟩, d1, rest, zz, XZ, hR, hlen, d2, hOz, hXZ⟩
 simp (maxSteps := 1000000) only [go_sem, jA, jB, jC, jD, jE, jF, jG, jH, jI, jJ, ↓reduceIte, reduceCtorEq, jP] at hn4 d0 d1 d2 hm4 hR
 obtain ⟨R2, h15⟩ : ∃ X, fe3 15 = X := ⟨_, rfl⟩
 rw [h15] at hR
 try simp (disch := omega) only [go_sem, jA, jB, jC, jD, jE, jF, jG, jH, jI, jJ, ↓reduceIte, reduceCtorEq, jO, jM, jN, jK, jL, h15, hR.len]
 refine cond_d (fun hlt3 => ?_) (fun hge3 => ?_)
 ·have hkl : k3 < L.length := by omega
  have hR2 : R2 = .list 6 (rps rest) := by
   rcases hR with ⟨-, h⟩ | h
   ·simp only at h; rw [h] at hlt3; simp at hlt3
   ·exact h
  subst hR2
  try simp (disch := omega) only [go_sem, jA, jB, jC, jD, jE, jF, jG, jH, jI, jJ, ↓reduceIte, reduceCtorEq, jO, jM, jN, jK, jL, h15, rps_length]
  refine call_hc (ok_mk_Deck_Next _ 0 0 ty_Deck true t at4 _ d0 (by omega) hlt) ?_
  have hx7 := deckR_bd t at4 (rest.length : Int)
  generalize deckR t at4 (rest.length : Int) = dr at *
  obtain ⟨x7, at7⟩ := dr
  simp only at hx7
  obtain ⟨j, hj⟩ : ∃ j : Nat, (j : Int) = x7 ∧ j < rest.length := ⟨x7.toNat, by omega, by omega⟩
  obtain ⟨rfl, hj⟩ := hj
  have hjr : rest[j]? = some rest[j] := List.getElem?_eq_getElem hj
  obtain ⟨w, f1, f2, hOw⟩ := hOz.step (by omega) hok hjr
  have hrk := hok _ ((hOz.mem _).2 (.inr (List.getElem_mem hj)))
  have hFl := ok_revision_File zz hOz.ok rest[j] (hOz.op.symm ▸ hrk)
  rw [f1] at hFl
  have hFw := ok_revision_File w hOw.ok rest[j] (hOw.op.symm ▸ hrk)
  rw [f2] at hFw
  have hzop := hOz.op
  have hwop := hOw.op
  have hS := ok_revision_Same w w (by rw [hwop]; omega) (by rw [hwop]; exact hAL) (by have := hOw.ok.m; omega)
  rw [decide_eq_true rfl] at hS
  generalize rest[j] = r at *
  obtain ⟨x1f, x1c, x1o⟩ := hXZ.fl
  have hnl := hXZ.nlr
  have n0 : ¬ m2 = 0 := by omega
  have n1 : ¬ m2 = m4 := by omega
  have n2 : ¬ m2 = m4 + 1 := by omega
  rw [hzop] at hnl
  simp only [bkv, hwop] at hFw hS
  try simp (disch := omega) only [go_sem, jA, jB, jC, jD, jE, jF, jG, jH, jI, jJ, ↓reduceIte, reduceCtorEq, jO, jM, jN, jK, jL, h15, rps_length, rps_get, hjr, Option.map_some, rpv, n0, n1, n2, d2, x1f, x1c, x1o]
  refine ⟨by omega, by omega, ?_⟩
  refine call_pc (pc_nl hFl (.cons hnl (NlRs.refl _))) (by simp [go_sem, rpv, acs_pur, hXZ.pur, hXZ.pur1]) ?_
  try simp (disch := omega) only [go_sem, jA, jB, jC, jD, jE, jF, jG, jH, jI, jJ, ↓reduceIte, reduceCtorEq, jO, jM, jN, jK, jL, bkv, hwop, h15, rps_length, rps_get, hjr, Option.map_some, rpv, n0, n1, n2, d2, x1f, x1c, x1o]
  refine ⟨by omega, by omega, ?_⟩
  refine call_pc hFw (by simp [go_sem, rpv, acs_pur, rps_pur]) ?_
  try simp (disch := omega) only [go_sem, jA, jB, jC, jD, jE, jF, jG, jH, jI, jJ, ↓reduceIte, reduceCtorEq, jO, jM, jN, jK, jL, bkv, hwop]
  refine call_pc hS (by simp [go_sem, acs_pur, rps_pur]) ?_
  try simp (disch := omega) only [go_sem, jA, jB, jC, jD, jE, jF, jG, jH, jI, jJ, ↓reduceIte, reduceCtorEq, jO, jM, jN, jK, jL, n0, n1, n2, d2, x1f, x1c, x1o, h15, rps_length]
  have e1 : ((j : Int) + 1).toNat = j + 1 := by omega
  refine ⟨by omega, by omega, by omega, by omega, ?_⟩
  have et : (rps rest).take j ++ (rps rest).drop (j + 1) = rps (rest.take j ++ rest.drop (j + 1)) := by simp [rps]
  have el : (rest.take j ++ rest.drop (j + 1)).length + 1 = rest.length := by rw [List.length_append, List.length_take, List.length_drop]; omega
  have el2 : ((rps rest).take j).length + ((rps rest).drop (j + 1)).length ≤ 100 := by rw [List.length_take, List.length_drop, rps_length]; omega
  rw [e1]
  refine app_fl ?_ ?_ ?_ ?_
  ·rw [et]; exact rps_pur _
  ·omega
  ·omega
  rw [et]
  try simp (disch := omega) only [go_sem, jA, jB, jC, jD, jE, jF, jG, jH, jI, jJ, ↓reduceIte, reduceCtorEq, jO, jM, jN, jK, jL]
  refine up_nextG m4 hkl (by omega) ⟨by simp only [St.trunc]; omega, ⟨at7, ?_⟩, ?_, rest.take j ++ rest.drop (j + 1), w, .list 6 (rps w.rp), .inr (by try simp (disch := omega) only [go_sem, jA, jB, jC, jD, jE, jF, jG, jH, jI, jJ, ↓reduceIte, reduceCtorEq, jO, jM, jN, jK, jL]), by omega, ?_, hOw, .inr rfl⟩
  ·simp only [St.trunc]; rw [if_pos (by omega)]; repeat rw [upd_ne _ _ _ _ (by omega)]
   simp [upd]
  ·simp only [St.trunc]; rw [if_pos (by omega)]; repeat rw [upd_ne _ _ _ _ (by omega)]
   exact d1
  ·simp only [St.trunc]; rw [if_pos (by omega)]; simp [upd]
 ·have hrest : rest = [] := List.eq_nil_of_length_eq_zero (by omega)
  subst hrest
  obtain ⟨rfl, hln⟩ := hOz.done hO
  have hS := ok_revision_Same z z (by rw [hO.op]; omega) (by rw [hO.op]; exact hAL) (by have := hO.ok.m; omega)
  rw [decide_eq_true rfl] at hS
  have n1 := hXR.nlr
  have n2 := hXZ.nlr
  rw [hO.op] at n1 n2
  obtain ⟨x1f, x1c, x1o⟩ := hXR.fl
  obtain ⟨x2f, x2c, x2o⟩ := hXZ.fl
  try simp (disch := omega) only [go_sem, jA, jB, jC, jD, jE, jF, jG, jH, jI, jJ, ↓reduceIte, reduceCtorEq, jO, jM, jN, jK, jL, d1, d2, x1f, x1c, x1o, x2f, x2c, x2o]
  refine call_pc (pc_nl hS (.cons n1 (.cons n2 .nil))) (by simp [go_sem, acs_pur, hXR.pur, hXR.pur1, hXZ.pur, hXZ.pur1]) ?_
  try simp (disch := omega) only [go_sem, jA, jB, jC, jD, jE, jF, jG, jH, jI, jJ, ↓reduceIte, reduceCtorEq, jO, jM, jN, jK, jL, d1, x1f, x1c, x1o, h6, hXR.len, len_slr r6, rps_length, hln]
  exact Pub.pure rfl
theorem law_law31_RevisionOrder {c0 : List AV} (s0 : (Sh.slice 1 (.int .i64)).R c0) : PC prog n_law31_RevisionOrder [(Sh.slice 1 (.int .i64)).mk1 c0] (.bool true) := by
 obtain ⟨l0, rfl, _, _⟩ := shInts s0
 exact ok_law31_RevisionOrder l0
end Go.Proofs.Try
