/- OWN WORK, put together by tools/asm.py, seat.py, mini.py. -/
import Derived.Test.YtmjcbljjnhmmnaaLibB
set_option linter.unusedSimpArgs false
set_option linter.unusedVariables false
set_option maxRecDepth 100000
set_option maxHeartbeats 1000000
namespace Go.Proofs.Try
open Go.Ab Go
open Int renaming reduceEq → jA, reduceLT → jB, reduceLE → jC, reduceToNat → jD
open Go.Ab renaming w_ite_ne → jM, w_ite_lt → jN, wrap_id → jO, w_app_nl → jP
open Nat renaming reduceLT → jE, reduceEqDiff → jF, reduceAdd → jG, reduceLeDiff → jH, reduceSub → jI, reduceMul → jJ, sub_zero → jK, sub_self → jL
theorem cs_eq {b c : Cs} : b = c ↔ b.k = c.k ∧ b.s = c.s := by
 cases b; cases c; simp
def openR (l : List Wt) : Bo := if watE l = 0 then ⟨l, List.replicate l.length [], []⟩ else boZ
def openV (l : List Wt) : AV := .tuple [bov (openR l), .int .i64 (watE l)]
theorem nl_reps (n : Nat) : NlR (.list 1 (List.replicate n .nil)) (.list 1 (lls (List.replicate n []))) := by
 intro S w v hv
 have hl : (lls (List.replicate n [])).length = (List.replicate n AV.nil).length := by simp [lls]
 have hn : ∀ (i : Nat) (x : AV), (List.replicate n AV.nil)[i]? = some x → x = .nil := fun i x h => by
  rw [List.getElem?_replicate] at h
  split at h
  ·exact (Option.some.inj h).symm
  ·cases h
 have hm : ∀ (i : Nat) (x : AV), (lls (List.replicate n []))[i]? = some x → x = .list 1 [] := fun i x h => by
  rw [lls_get, List.getElem?_replicate] at h
  split at h
  ·exact (Option.some.inj h).symm
  ·cases h
 generalize List.replicate n AV.nil = L at hv hl hn
 generalize lls (List.replicate n []) = M at hl hm ⊢
 cases hv with
 | listNil => 
  obtain rfl : M = [] := List.eq_nil_of_length_eq_zero hl
  exact .listNil _ _ _
 | list f hne hcap hS hc hw hv =>
  rw [← hl]
  refine VP.list f (fun h => hne (List.eq_nil_of_length_eq_zero (by rw [← hl, h]; rfl))) (by rw [hl]; exact hcap) hS (fun i x hx => by rw [hm i x hx]; exact ⟨rfl, rfl⟩) (fun i j hi hj => hw i j (by omega) hj) fun i x j y hx hy => ?_
  rw [hm i x hx] at hy
  have hi := (List.getElem?_eq_some_iff.1 hx).1
  have hx2 : L[i]? = some L[i] := List.getElem?_eq_getElem (by omega)
  have hx3 := hn i _ hx2
  rw [hx3] at hx2
  cases j with
  | succ j => simp [AV.cells] at hy
  | zero =>
   simp only [AV.cells, List.getElem?_cons_zero, Option.some.injEq] at hy
   subst hy
   exact NlR.nil 1 S w _ (hv i .nil 0 .nil hx2 rfl)
theorem PC.nl {P : Program} {f : Nat} {args : List AV} {r r' : AV} (h : PC P f args r) (k : NlR r r') : PC P f args r' :=
 ⟨h.1, fun S w vs hS hv => (h.2 S w vs hS hv).mono fun x w' ⟨v, S', h1, h2, h3, h4, h5⟩ => ⟨v, S', h1, h2, h3, h4, k S' w' v h5⟩⟩
theorem NlR.tu {l r : List AV} (h : NlRs l r) : NlR (.tuple l) (.tuple r) := fun S w v hv => by
 cases hv with
 | tuple hl hh =>
  refine .tuple (by rw [hl, h.get.1]) fun j y u hy hu => ?_
  obtain ⟨x, hx, hxy⟩ := h.get.2 j y hy
  exact hxy S w u (hh j x u hx hu)
def openN (l : List Wt) : AV := if watE l = 0 then .tuple [.agg [.list 4 (wts l), .list 1 (List.replicate l.length .nil), .list 4 []], .int .i64 0] else openV l
theorem openN_nl (l : List Wt) : NlR (openN l) (openV l) := by
 unfold openN
 split
 ·rename_i h
  rw [openV, openR, if_pos h, h]
  exact NlR.tu (.cons (NlR.agg (.cons .rfl (.cons (nl_reps _) (.cons .rfl .nil)))) (.cons .rfl .nil))
 ·exact .rfl
theorem open_bad {l : List Wt} {n : Int} (h : watE l = n) (hn : n ≠ 0) {σ : St} : Pub σ (.tuple [.agg [.nil, .nil, .nil], .int .i64 n]) (openN l) := by
 rw [openN, if_neg (by rw [h]; exact hn), openV, openR, h, if_neg hn]
 exact Pub.tu (.cons pub_boZ (.cons (Pub.e rfl) .nil))
theorem ok_ref36_Open (l : List Wt) (hl : l.length ≤ 9223372036854775807) : PC prog n_ref36_Open [.list 4 (wts l)] (openV l) := by
 refine PC.nl ?_ (openN_nl l)
 refine PC_of_body b_ref36_Open (by simp) ?_
 simp only [c_ref36_Open, go_sem, jA, jB, jC, jD, jE, jF, jG, jH, jI, jJ, ↓reduceIte, reduceCtorEq, wts_length]
 refine cond_d (fun h0 => ?_) (fun h0 => ?_) <;> try simp (disch := omega) only [go_sem, jA, jB, jC, jD, jE, jF, jG, jH, jI, jJ, ↓reduceIte, reduceCtorEq, jO, jM, jN, jK, jL, wts_length]
 ·exact open_bad (by rw [watE, if_pos (by omega)]) (by omega)
 refine awp_upG [3, 5, 12, 13, 14, 15, 16, 17, 18, 19, 20] (by kernel_rfl) l.length (fun k e σ => e 12 = .int .i64 k ∧ σ.ob 0 = some ⟨0, 3, 31, false, true, [.agg [.nil, .nil, .nil]]⟩ ∧ (l.take k).all wtB = true) ?_ ?_
 ·exact ⟨(by first | rfl | (simp (disch := omega) only [go_sem, jA, jB, jC, jD, jE, jF, jG, jH, jI, jJ, ↓reduceIte, reduceCtorEq, jP, jO, jM, jN]; try rfl)), (by first | rfl | (simp (disch := omega) only [go_sem, jA, jB, jC, jD, jE, jF, jG, jH, jI, jJ, ↓reduceIte, reduceCtorEq, jP, jO, jM, jN]; try rfl)), by simp⟩
 rintro k fe ob m c hk hm ⟨h12, ho, hj⟩
 simp (maxSteps := 1000000) only [go_sem, jA, jB, jC, jD, jE, jF, jG, jH, jI, jJ, ↓reduceIte, reduceCtorEq, jP] at h12 hm ho
 try simp (disch := omega) only [go_sem, jA, jB, jC, jD, jE, jF, jG, jH, jI, jJ, ↓reduceIte, reduceCtorEq, jO, jM, jN, jK, jL, h12, wts_length]
 refine cond_d (fun hlt => ?_) (fun hge => ?_)
 ·have hkl : k < l.length := by omega
  have hk2 : l[k]? = some l[k] := List.getElem?_eq_getElem hkl
  have hgo := all_go (p := wtB) hkl hj
  have hbad : wtB l[k] = false → watE l = 52 := fun h => by rw [watE, if_neg (by omega), all_bad (p := wtB) hkl h]; rfl
  have hp := ok_ref36_point l[k]
  have z0 : ¬ 0 = m := by omega
  generalize l[k] = x at *
  simp only [wtv] at hp
  try simp (disch := omega) only [go_sem, jA, jB, jC, jD, jE, jF, jG, jH, jI, jJ, ↓reduceIte, reduceCtorEq, jO, jM, jN, jK, jL, h12, wts_length, wts_get, hk2, Option.map_some, wtv, ho, z0]
  refine ⟨by omega, by omega, ?_⟩
  refine call_pc hp (by simp [go_sem]) ?_
  cases hb : wtB x <;> try simp (disch := omega) only [go_sem, jA, jB, jC, jD, jE, jF, jG, jH, jI, jJ, ↓reduceIte, reduceCtorEq, jO, jM, jN, jK, jL, h12, ho, z0]
  ·exact open_bad (hbad hb) (by omega)
  ·exact up_nextG (m + 1) hkl (by omega) ⟨(by first | rfl | (simp (disch := omega) only [go_sem, jA, jB, jC, jD, jE, jF, jG, jH, jI, jJ, ↓reduceIte, reduceCtorEq, jP, jO, jM, jN]; try rfl)), by try simp (disch := omega) only [go_sem, jA, jB, jC, jD, jE, jF, jG, jH, jI, jJ, ↓reduceIte, reduceCtorEq, jO, jM, jN, jK, jL, z0]; exact ho, hgo hb⟩
 ·obtain rfl : k = l.length := by omega
  rw [List.take_length] at hj
  have g1 : watE l = 0 := by rw [watE, if_neg (by omega), hj]; rfl
  try simp (disch := omega) only [go_sem, jA, jB, jC, jD, jE, jF, jG, jH, jI, jJ, ↓reduceIte, reduceCtorEq, jO, jM, jN, jK, jL, wts_length]
  refine app_slrs (M := wts l) (b := 32) SlR.nil (by simp [wts_length]; omega) (by simp [wts_length]; omega) fun X τ hX kX => ?_
  obtain ⟨ob2, m2, c2⟩ := τ
  simp only [List.nil_append] at hX
  have q0 : ob2 0 = ob 0 := kX.2.1 0 (by simp only; omega) (Oth.nil _)
  rw [ho] at q0
  have z0 : ¬ 0 = m2 := by have := kX.1; simp only at this; omega
  have ox : Oth X 0 := kX.2.2 0 (by simp only; omega) (Oth.nil _)
  try simp (disch := omega) only [go_sem, jA, jB, jC, jD, jE, jF, jG, jH, jI, jJ, ↓reduceIte, reduceCtorEq, jO, jM, jN, jK, jL, wts_length, hX.flat, hX.cells, hX.one, q0, z0]
  refine ⟨by omega, by omega, by omega, ?_⟩
  rw [openN, if_pos g1]
  refine Pub.tu (.cons (Pub.ag (.cons (hX.pub (fun i hi hh => ?_) (wts_pur _) (wts_ok _)) (.cons (Pub.e rfl) (.cons (.nl 4) .nil)))) (.cons (Pub.e rfl) .nil))
  simp only at hi ⊢
  rw [upd_ne _ _ _ _ (fun h => hh (by cases h; exact ox))]
def actO (b : Bo) (p : Int) : Option Wn := if vdB b then b.ac.find? (fun w => decide (w.p = p)) else none
def actV (b : Bo) (p : Int) : AV := .tuple [wnv ((actO b p).getD wnZ), .bool (actO b p).isSome]
theorem pub_wnZ {σ : St} : Pub σ (.agg [.int .i64 0, .int .i64 0, .nil, .int .i64 0]) (wnv wnZ) := Pub.ag (.cons (Pub.e rfl) (.cons (Pub.e rfl) (.cons (.nl 2) (.cons (Pub.e rfl) .nil))))
theorem act_no {b : Bo} {p : Int} (h : actO b p = none) {σ : St} : Pub σ (.tuple [.agg [.int .i64 0, .int .i64 0, .nil, .int .i64 0], .bool false]) (actV b p) := by
 rw [actV, h]
 exact Pub.tu (.cons pub_wnZ (.cons (Pub.e rfl) .nil))
theorem find_at {α : Type} {p : α → Bool} {l : List α} {k : Nat} {x : α} (hx : l[k]? = some x) (hp : p x = true) (h : ∀ j, j < k → ∀ y, l[j]? = some y → p y = false) : l.find? p = some x := by
 rw [List.find?_eq_some_iff_getElem]
 obtain ⟨hk, rfl⟩ := List.getElem?_eq_some_iff.1 hx
 exact ⟨hp, k, hk, rfl, fun j hj => by have := h j hj l[j] (List.getElem?_eq_getElem (by omega)); simp [this]⟩
theorem find_no {α : Type} {p : α → Bool} {l : List α} (h : ∀ j, j < l.length → ∀ y, l[j]? = some y → p y = false) : l.find? p = none := by
 rw [List.find?_eq_none]
 intro x hx
 obtain ⟨i, hi⟩ := List.getElem?_of_mem hx
 rw [h i (List.getElem?_eq_some_iff.1 hi).1 x hi]
 simp
theorem ok_warning_copied (w : Wn) (hl : w.cs.length ≤ 1000000) : PC prog n_warning_copied [wnv w] (wnv w) := by
 refine PC_of_body b_warning_copied (by simp) ?_
 simp only [c_warning_copied, go_sem, jA, jB, jC, jD, jE, jF, jG, jH, jI, jJ, ↓reduceIte, reduceCtorEq, jP, wnv]
 refine call_pc (okl_slices_Clone__Cause (css w.cs) (by rw [css_length]; omega) (css_pur _) (css_ok _)) (by simp [go_sem, css_pur]) ?_
 try simp (disch := omega) only [go_sem, jA, jB, jC, jD, jE, jF, jG, jH, jI, jJ, ↓reduceIte, reduceCtorEq, jO, jM, jN, jK, jL]
 exact Pub.pure (by simp [go_sem, css_pur])
theorem ok_warning_Active (b : Bo) (p : Int) (h : BoL b) : PC prog n_warning_Active [bov b, .int .i64 p] (actV b p) := by
 refine PC_of_body b_warning_Active (by simp) ?_
 simp only [c_warning_Active, go_sem, jA, jB, jC, jD, jE, jF, jG, jH, jI, jJ, ↓reduceIte, reduceCtorEq, jP, bov]
 have hV := ok_warning_valid b h
 simp only [bov] at hV
 refine call_pc hV (by simp [go_sem, wts_pur, lls_pur, wns_pur]) ?_
 cases hv : vdB b <;> try simp (disch := omega) only [go_sem, jA, jB, jC, jD, jE, jF, jG, jH, jI, jJ, ↓reduceIte, reduceCtorEq, jO, jM, jN, jK, jL, wns_length]
 ·exact act_no (by rw [actO, hv]; rfl)
 have hB := vdB_iff.1 hv
 have ha8 := hB.a1
 refine awp_upG [5, 7, 15, 16, 17, 18, 19, 20, 21, 22, 23, 24, 25] (by kernel_rfl) b.ac.length (fun k e σ => e 15 = .int .i64 k ∧ σ.ob 1 = some ⟨1, 4, 56, false, true, [.agg [.int .i64 0, .int .i64 0, .nil, .int .i64 0]]⟩ ∧ ∀ j, j < k → ∀ y, b.ac[j]? = some y → decide (y.p = p) = false) ?_ ?_
 ·exact ⟨(by first | rfl | (simp (disch := omega) only [go_sem, jA, jB, jC, jD, jE, jF, jG, jH, jI, jJ, ↓reduceIte, reduceCtorEq, jP, jO, jM, jN]; try rfl)), (by first | rfl | (simp (disch := omega) only [go_sem, jA, jB, jC, jD, jE, jF, jG, jH, jI, jJ, ↓reduceIte, reduceCtorEq, jP, jO, jM, jN]; try rfl)), fun j hj => by omega⟩
 rintro k fe ob m c hk hm ⟨hki, ho, hj⟩
 simp (maxSteps := 1000000) only [go_sem, jA, jB, jC, jD, jE, jF, jG, jH, jI, jJ, ↓reduceIte, reduceCtorEq, jP] at hki hm ho
 try simp (disch := omega) only [go_sem, jA, jB, jC, jD, jE, jF, jG, jH, jI, jJ, ↓reduceIte, reduceCtorEq, jO, jM, jN, jK, jL, hki, wns_length]
 refine cond_d (fun hlt => ?_) (fun hge => ?_)
 ·have hkl : k < b.ac.length := by omega
  have hk2 : b.ac[k]? = some b.ac[k] := List.getElem?_eq_getElem hkl
  have hcl := wnB_cs (hB.wn _ (List.getElem_mem hkl))
  have z1 : ¬ 1 = m := by omega
  have hW := ok_warning_copied b.ac[k] (by omega)
  generalize b.ac[k] = x at *
  simp only [wnv] at hW
  try simp (disch := omega) only [go_sem, jA, jB, jC, jD, jE, jF, jG, jH, jI, jJ, ↓reduceIte, reduceCtorEq, jO, jM, jN, jK, jL, hki, wns_length, wns_get, hk2, Option.map_some, wnv, ho, z1]
  refine ⟨by omega, by omega, ?_⟩
  refine cond_d (fun hp => ?_) (fun hp => ?_) <;> try simp (disch := omega) only [go_sem, jA, jB, jC, jD, jE, jF, jG, jH, jI, jJ, ↓reduceIte, reduceCtorEq, jO, jM, jN, jK, jL, hki, ho, z1]
  ·refine call_pc hW (by simp [go_sem, css_pur]) ?_
   try simp (disch := omega) only [go_sem, jA, jB, jC, jD, jE, jF, jG, jH, jI, jJ, ↓reduceIte, reduceCtorEq, jO, jM, jN, jK, jL, ho, z1]
   have hf : actO b p = some x := by rw [actO, hv, if_pos rfl]; exact find_at hk2 (by simpa using hp) hj
   rw [actV, hf]
   exact Pub.tu (.cons (Pub.e (by simp [go_sem, css_pur])) (.cons (Pub.e rfl) .nil))
  ·refine up_nextG (m + 1) hkl (by omega) ⟨(by first | rfl | (simp (disch := omega) only [go_sem, jA, jB, jC, jD, jE, jF, jG, jH, jI, jJ, ↓reduceIte, reduceCtorEq, jP, jO, jM, jN]; try rfl)), by try simp (disch := omega) only [go_sem, jA, jB, jC, jD, jE, jF, jG, jH, jI, jJ, ↓reduceIte, reduceCtorEq, jO, jM, jN, jK, jL, z1]; exact ho, fun j hj' y hy => ?_⟩
   by_cases e : j = k
   ·subst e; rw [hk2] at hy; obtain rfl := Option.some.inj hy; simpa using hp
   ·exact hj j (by omega) y hy
 ·obtain rfl : k = b.ac.length := by omega
  try simp (disch := omega) only [go_sem, jA, jB, jC, jD, jE, jF, jG, jH, jI, jJ, ↓reduceIte, reduceCtorEq, jO, jM, jN, jK, jL, ho]
  exact act_no (by rw [actO, hv, if_pos rfl]; exact find_no hj)
theorem lls_snoc (l : List (List Int)) (x : List Int) : lls l ++ [.list 1 (ints x)] = lls (l ++ [x]) := by simp [lls]
theorem wns_snoc (l : List Wn) (x : Wn) : wns l ++ [wnv x] = wns (l ++ [x]) := by simp [wns]
end Go.Proofs.Try
