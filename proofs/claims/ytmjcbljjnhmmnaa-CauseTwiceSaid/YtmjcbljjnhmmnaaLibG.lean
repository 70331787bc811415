/- OWN WORK, put together by tools/asm.py, seat.py, mini.py. -/
import Derived.Test.YtmjcbljjnhmmnaaLibF
set_option linter.unusedSimpArgs false
set_option linter.unusedVariables false
set_option maxRecDepth 100000
set_option maxHeartbeats 1000000
namespace Go.Proofs.Try
open Go.Ab Go
open Int renaming reduceEq → jA, reduceLT → jB, reduceLE → jC, reduceToNat → jD
open Go.Ab renaming w_ite_ne → jM, w_ite_lt → jN, wrap_id → jO, w_app_nl → jP
open Nat renaming reduceLT → jE, reduceEqDiff → jF, reduceAdd → jG, reduceLeDiff → jH, reduceSub → jI, reduceMul → jJ, sub_zero → jK, sub_self → jL
theorem hc_cause_End_1 (τ : St) (id g : Nat) (ty : TypeId) (x c : Cs) (hob : τ.ob id = some ⟨g, 2, ty, false, true, [csv c]⟩) (hid : id < τ.n) :
  HC prog n_cause_End_1 [csv x, .ptr id g 2 0 0] τ (fun r τ' => r = .bool (decide (x = c)) ∧ AsC τ τ') := by
 obtain ⟨ob, n, cc⟩ := τ
 simp only at hob hid
 refine HC_of_body b_cause_End_1 (by simp) ?_
 have z1 : ¬ id = n := by omega
 simp only [csv] at hob
 simp only [c_cause_End_1, go_sem, jA, jB, jC, jD, jE, jF, jG, jH, jI, jJ, ↓reduceIte, reduceCtorEq, jP, csv]
 try simp (disch := omega) only [go_sem, jA, jB, jC, jD, jE, jF, jG, jH, jI, jJ, ↓reduceIte, reduceCtorEq, jO, jM, jN, jK, jL, hob, z1]
 refine ⟨?_, Nat.le_succ _, fun k hk => by simp only at hk ⊢; rw [upd_ne _ _ _ _ (by omega)]⟩
 rw [AV.bool.injEq, Bool.eq_iff_iff]; simp [cs_eq]
def delC (l : List Cs) (c : Cs) : List Cs := l.filter fun x => !decide (x = c)
def endL (l : List Wn) (p : Int) (c : Cs) : List Wn := putC l (plI l p) (delC (gA l (plI l p)).cs c)
def endE (b : Bo) (p : Int) (c : Cs) : Int := if vdB b = false then 50 else if p < 0 ∨ b.ps.length ≤ p then 52 else if plB b.ac p = false then 9 else if hsB (gA b.ac (plI b.ac p)).cs c then 0 else 9
def endB (b : Bo) (p : Int) (c : Cs) : Bo := ⟨b.ps, b.pa, endL b.ac p c⟩
def endR (b : Bo) (p : Int) (c : Cs) : Bo := if endE b p c = 0 then endB b p c else boZ
def endV (b : Bo) (p : Int) (c : Cs) : AV := .tuple [bov (endR b p c), .int .i64 (endE b p c)]
theorem end_bad {b : Bo} {p n : Int} {c : Cs} (h : endE b p c = n) (hn : n ≠ 0) {σ : St} : Pub σ (.tuple [.agg [.nil, .nil, .nil], .int .i64 n]) (endV b p c) := by
 rw [endV, h, endR, if_neg (by rw [h]; exact hn)]
 exact Pub.tu (.cons pub_boZ (.cons (Pub.e rfl) .nil))
theorem rdyE_iff {b : Bo} {p : Int} : rdyE b p = 0 ↔ vdB b = true ∧ ¬ (p < 0 ∨ (b.ps.length : Int) ≤ p) := by
 rw [rdyE]
 cases hv : vdB b
 ·simp
 ·rw [if_neg (by simp)]
  split
  ·rename_i h; simp [h]
  ·rename_i h; simp [h]
theorem wnJ_pub {σ τ : St} {l : List Wn} {j : Nat} {X E : AV} (hX : SlR 4 tyA σ (wnJ l j E l.length) X) (hE : j < l.length → SlR 2 tyC σ (css (gA l j).cs) E) (ho : ∀ i, i < σ.n → (¬ Oth X i ∨ ¬ Oth E i) → τ.ob i = σ.ob i) : Pub τ X (.list 4 (wns l)) := by
 refine pub_slx hX (fun i hi hh => ho i hi (.inl hh)) (by rw [wnJ, List.length_set, List.take_length]) (fun i x y hx hy => ?_) (wns_ok _)
 rw [wnJ, List.take_length, List.getElem?_set] at hx
 split at hx
 ·rename_i hij
  split at hx
  ·rename_i hlt
   subst hij
   rw [wns_length] at hlt
   rw [wns_get] at hy
   obtain ⟨w, hw, rfl⟩ := Option.map_eq_some_iff.1 hy
   have hEE := hE hlt
   have hgw : gA l j = w := by rw [gA, List.getD_eq_getElem?_getD, hw]; rfl
   rw [hgw] at hx hEE
   obtain rfl := Option.some.inj hx
   exact Pub.ag (.cons (Pub.e rfl) (.cons (Pub.e rfl) (.cons (hEE.pub (fun i hi hh => ho i hi (.inr hh)) (css_pur _) (css_ok _)) (.cons (Pub.e rfl) .nil))))
  ·cases hx
 ·rw [hx] at hy
  obtain rfl := Option.some.inj hy
  exact Pub.e (wns_pur _ _ (List.mem_of_getElem? hx))
theorem ok_cause_End (b : Bo) (p : Int) (c : Cs) (h : BoL b) : PC prog n_cause_End [bov b, .int .i64 p, csv c] (endV b p c) := by
 refine PC_of_body b_cause_End (by simp) ?_
 simp only [c_cause_End, bov, csv]
 try simp (disch := omega) only [go_sem, jA, jB, jC, jD, jE, jF, jG, jH, jI, jJ, ↓reduceIte, reduceCtorEq, jO, jM, jN, jK, jL]
 have hC := ok_cause_ready b p h
 simp only [bov] at hC
 refine call_pc hC (by simp [go_sem, wts_pur, lls_pur, wns_pur]) ?_
 try simp (disch := omega) only [go_sem, jA, jB, jC, jD, jE, jF, jG, jH, jI, jJ, ↓reduceIte, reduceCtorEq, jO, jM, jN, jK, jL]
 refine cond_n (fun g0 => ?_) (fun g0 => ?_)
 ·try simp (disch := omega) only [go_sem, jA, jB, jC, jD, jE, jF, jG, jH, jI, jJ, ↓reduceIte, reduceCtorEq, jO, jM, jN, jK, jL, g0]
  refine end_bad ?_ g0
  rw [rdyE] at g0 ⊢
  rw [endE]
  split
  ·rfl
  ·rename_i h1
   rw [if_neg h1] at g0
   split
   ·rfl
   ·rename_i h2; rw [if_neg h2] at g0; exact absurd rfl g0
 obtain ⟨hv, gp⟩ := rdyE_iff.1 g0
 have hV := vdB_iff.1 hv
 try simp (disch := omega) only [go_sem, jA, jB, jC, jD, jE, jF, jG, jH, jI, jJ, ↓reduceIte, reduceCtorEq, jO, jM, jN, jK, jL, g0]
 have e0 : ∀ n, (if plB b.ac p = false then 9 else if hsB (gA b.ac (plI b.ac p)).cs c then 0 else 9) = n → endE b p c = n := fun n hn => by rw [endE, if_neg (by simp [hv]), if_neg gp, hn]
 have ha8 := hV.a1
 have hpi := plI_le b.ac p
 have hcp := fun σ => hcK_cause_copied σ b (plI b.ac p) hV
 simp only [bov] at hcp
 refine (hcp _).mono ?_
 rintro r ⟨ob1, n1, c1⟩ ⟨X, E, rfl, hX, hE0, hE1, hn1, hXn, hEn, ho1⟩
 have u0 := ho1 0 (by simp only; omega)
 have u1 := ho1 1 (by simp only; omega)
 have u2 := ho1 2 (by simp only; omega)
 try simp (disch := omega) only [go_sem, jA, jB, jC, jD, jE, jF, jG, jH, jI, jJ, ↓reduceIte, reduceCtorEq, jO, jM, jN, jK, jL] at u0
 try simp (disch := omega) only [go_sem, jA, jB, jC, jD, jE, jF, jG, jH, jI, jJ, ↓reduceIte, reduceCtorEq, jO, jM, jN, jK, jL] at u1
 try simp (disch := omega) only [go_sem, jA, jB, jC, jD, jE, jF, jG, jH, jI, jJ, ↓reduceIte, reduceCtorEq, jO, jM, jN, jK, jL] at u2
 try simp (disch := omega) only [go_sem, jA, jB, jC, jD, jE, jF, jG, jH, jI, jJ, ↓reduceIte, reduceCtorEq, jO, jM, jN, jK, jL] at hn1
 try simp (disch := omega) only [go_sem, jA, jB, jC, jD, jE, jF, jG, jH, jI, jJ, ↓reduceIte, reduceCtorEq, jO, jM, jN, jK, jL] at hXn
 try simp (disch := omega) only [go_sem, jA, jB, jC, jD, jE, jF, jG, jH, jI, jJ, ↓reduceIte, reduceCtorEq, jO, jM, jN, jK, jL] at hEn
 obtain ⟨ob2, hob2⟩ : ∃ ob2, ob2 = upd (upd ob1 n1 (some ⟨c1, 3, 31, false, true, [.agg [.nil, .nil, .nil]]⟩)) n1 (some ⟨c1, 3, 31, false, true, [.agg [.list 4 (wts b.ps), .list 1 (lls b.pa), X]]⟩) := ⟨_, rfl⟩
 have hag : ∀ i, i < n1 → ob2 i = ob1 i := fun i hi => by rw [hob2, upd_ne _ _ _ _ (by omega), upd_ne _ _ _ _ (by omega)]
 have w3 : ob2 n1 = some ⟨c1, 3, 31, false, true, [.agg [.list 4 (wts b.ps), .list 1 (lls b.pa), X]]⟩ := by rw [hob2, upd_same]
 try simp (disch := omega) only [go_sem, jA, jB, jC, jD, jE, jF, jG, jH, jI, jJ, ↓reduceIte, reduceCtorEq, jO, jM, jN, jK, jL, hX.flat, hX.cells, hX.one]
 rw [← hob2]
 have hP := ok_cause_at b p h
 simp only [bov] at hP
 refine call_lent hP (.cons (Pub.ag (.cons (Pub.e (by simp [go_sem, wts_pur])) (.cons (Pub.e (by simp [go_sem, lls_pur])) (.cons (wnJ_pub hX hE1 fun i hi _ => hag i hi) .nil)))) (.cons (.pure rfl) .nil)) rfl ?_
 try simp (disch := omega) only [go_sem, jA, jB, jC, jD, jE, jF, jG, jH, jI, jJ, ↓reduceIte, reduceCtorEq, jO, jM, jN, jK, jL]
 have w1 := (hag 1 (by omega)).trans u1
 have w2 := (hag 2 (by omega)).trans u2
 cases hb : plB b.ac p
 ·try simp (disch := omega) only [go_sem, jA, jB, jC, jD, jE, jF, jG, jH, jI, jJ, ↓reduceIte, reduceCtorEq, jO, jM, jN, jK, jL, w2]
  exact end_bad (e0 9 (by rw [if_pos hb])) (by omega)
 obtain ⟨h1, h2, h3⟩ := plB_get hb
 have hcl := wnB_bd (hV.wn _ (List.mem_of_getElem? h2))
 have hcl2 := wnB_cs (hV.wn _ (List.mem_of_getElem? h2))
 rw [wnJ_split h1] at hX
 rcases hX with ⟨_, h0⟩ | ⟨id, g, rfl, hid, hoX⟩
 ·simp at h0
 simp only at hid hoX
 obtain ⟨hid3, hEid⟩ := hXn id fun h => h _ _ _ _ rfl
 have hoX2 := (hag id hid).trans hoX
 have hpre : (b.ac.take (plI b.ac p)).length = plI b.ac p := by rw [List.length_take]; omega
 have hg := fun {x} => mid_get (post := b.ac.drop (plI b.ac p + 1)) (x := x) hpre
 have hs := fun {x y} => mid_set (post := b.ac.drop (plI b.ac p + 1)) (x := x) (y := y) hpre
 have hg2 : ∀ (x : Wn) (A : AV), (wnX x A).cells.getD 2 .junk = A := fun _ _ => rfl
 have hil : plI b.ac p < (wns (b.ac.take (plI b.ac p)) ++ wnX (gA b.ac (plI b.ac p)) E :: wns (b.ac.drop (plI b.ac p + 1))).length := by
  rw [List.length_append, List.length_cons, wns_length, wns_length, hpre]; omega
 have hF2 : SlR 2 tyC ⟨ob2, n1 + 1, c1 + 1⟩ (css (gA b.ac (plI b.ac p)).cs) E := (hE1 h1).move (by simp only; omega) fun i hi _ => hag i hi
 have hCt := ok_slices_Contains__Cause (gA b.ac (plI b.ac p)).cs c (by omega)
 simp only [csv] at hCt
 try simp (disch := omega) only [go_sem, jA, jB, jC, jD, jE, jF, jG, jH, jI, jJ, ↓reduceIte, reduceCtorEq, jO, jM, jN, jK, jL, w1, w3, hoX2, hg, hg2]
 refine ⟨by omega, by omega, call_lent hCt (.cons (hF2.pub (fun _ _ _ => rfl) (css_pur _) (css_ok _)) (.cons (.pure rfl) .nil)) rfl ?_⟩
 try simp (disch := omega) only [go_sem, jA, jB, jC, jD, jE, jF, jG, jH, jI, jJ, ↓reduceIte, reduceCtorEq, jO, jM, jN, jK, jL]
 rw [← hsB_contains hcl.2.2.2.2.1]
 cases hbb : hsB (gA b.ac (plI b.ac p)).cs c <;> try simp (disch := omega) only [go_sem, jA, jB, jC, jD, jE, jF, jG, jH, jI, jJ, ↓reduceIte, reduceCtorEq, jO, jM, jN, jK, jL, w2]
 ·exact end_bad (e0 9 (by rw [if_neg (by simp [hb]), if_neg (by simp [hbb])])) (by omega)
 have hE : endE b p c = 0 := e0 0 (by rw [if_neg (by simp [hb]), if_pos hbb])
 have z1 : ¬ 1 = id := by omega
 try simp (disch := omega) only [go_sem, jA, jB, jC, jD, jE, jF, jG, jH, jI, jJ, ↓reduceIte, reduceCtorEq, jO, jM, jN, jK, jL, w3, hoX2, hg, hg2]
 refine ⟨by omega, by omega, ?_⟩
 refine (hc_slices_DeleteFunc__Cause _ E (gA b.ac (plI b.ac p)).cs n_cause_End_1 [.ptr 1 1 2 0 0] (fun x => decide (x = c)) hF2 (by omega) (fun τ x hn ho => hc_cause_End_1 τ 1 1 39 x c ?_ ?_)).mono ?_
 ·simp only at ho
  exact (ho 1 (by omega) (Oth.em fun hh => by have := hEn 1 hh; omega)).trans w1
 ·simp only at hn; omega
 rintro G ⟨ob5, m5, c5⟩ ⟨hG, hk1, hk2, hk3⟩
 have q1 : n1 + 1 ≤ m5 := hk1
 have q2 : ∀ i, i < n1 + 1 → Oth E i → ob5 i = ob2 i := hk2
 have q3 : ∀ i, i < n1 + 1 → Oth E i → Oth G i := hk3
 have oE : ∀ i, i < n1 + 1 → (i < 3 ∨ i = n1 ∨ i = id) → Oth E i := fun i hi h => by
  rcases h with h | rfl | rfl
  ·exact Oth.em fun hh => by have := hEn i hh; omega
  ·exact (hE1 h1).oth (Nat.le_refl _)
  ·exact hEid
 have p1 := (q2 id (by omega) (oE id (by omega) (.inr (.inr rfl)))).trans hoX2
 have p5 := (q2 2 (by omega) (oE 2 (by omega) (.inl (by omega)))).trans w2
 have p4 := (q2 n1 (by omega) (oE n1 (by omega) (.inr (.inl rfl)))).trans w3
 have hs4 : setc 2 G (wnX (gA b.ac (plI b.ac p)) E) = wnX (gA b.ac (plI b.ac p)) G := by simp only [wnX, setc, hG.cells]; rfl
 have z2 : ¬ 2 = id := by omega
 have z3 : ¬ n1 = id := by omega
 try simp (disch := omega) only [go_sem, jA, jB, jC, jD, jE, jF, jG, jH, jI, jJ, ↓reduceIte, reduceCtorEq, jO, jM, jN, jK, jL, p1, p5, p4, w3, hoX2, z2, z3, hg, hs, hs4, hG.flat, hG.cells, hG.one]
 refine ⟨by omega, by omega, ?_⟩
 try simp (disch := omega) only [go_sem, jA, jB, jC, jD, jE, jF, jG, jH, jI, jJ, ↓reduceIte, reduceCtorEq, jO, jM, jN, jK, jL, p1, p5, p4, w3, hoX2, z2, z3, hg, hs, hs4, hG.flat, hG.cells, hG.one]
 rw [endV, hE, endR, if_pos hE]
 show Pub _ _ (.tuple [.agg [.list 4 (wts b.ps), .list 1 (lls b.pa), .list 4 (wns (endL b.ac p c))], .int .i64 0])
 refine Pub.tu (.cons (Pub.ag (.cons (Pub.e (by simp [go_sem, wts_pur])) (.cons (Pub.e (by simp [go_sem, lls_pur])) (.cons ?_ .nil)))) (.cons (Pub.e rfl) .nil))
 rw [endL, putC]
 refine pub_mid (ty := tyA) (ro := false) (ap := true) (F := G) (w := ⟨(gA b.ac (plI b.ac p)).p, (gA b.ac (plI b.ac p)).t, delC (gA b.ac (plI b.ac p)).cs c, (gA b.ac (plI b.ac p)).cm⟩) ?_ ?_ ?_
 ·simp only
  rw [upd_ne _ _ _ _ (fun e => z2 e.symm), upd_same]; rfl
 ·simp [wns_length]; omega
 ·refine hG.pub (css_pur _) (css_ok _) fun i hi hh o ho => ⟨o.ro, ?_⟩
  have n2 : i ≠ 2 := fun e => by subst e; exact hh (q3 _ (by omega) (oE _ (by omega) (.inl (by omega))))
  have n3 : i ≠ id := fun e => by subst e; exact hh (q3 _ (by omega) (oE _ (by omega) (.inr (.inr rfl))))
  simp only
  rw [upd_ne _ _ _ _ n2, upd_ne _ _ _ _ n3]; exact ho
theorem ok_cause_Causes (b : Bo) (p : Int) (h : BoL b) : PC prog n_cause_Causes [bov b, .int .i64 p] (.tuple [.list 2 (css ((actO b p).getD wnZ).cs), .bool (actO b p).isSome]) := by
 refine PC_of_body b_cause_Causes (by simp) ?_
 simp only [c_cause_Causes, go_sem, jA, jB, jC, jD, jE, jF, jG, jH, jI, jJ, ↓reduceIte, reduceCtorEq, jP, bov]
 have hA := ok_warning_Active b p h
 simp only [bov, actV] at hA
 have hn : actO b p = none → ((actO b p).getD wnZ).cs = [] := fun h => by rw [h]; rfl
 cases ha : actO b p with
 | none =>
  rw [ha] at hA
  refine call_pc hA (by simp [go_sem, wts_pur, lls_pur, wns_pur]) ?_
  try simp (disch := omega) only [go_sem, jA, jB, jC, jD, jE, jF, jG, jH, jI, jJ, ↓reduceIte, reduceCtorEq, jO, jM, jN, jK, jL, wnv, Option.getD_none, Option.isSome_none, Bool.not_false]
  show Pub _ _ (.tuple [.list 2 [], .bool false])
  exact Pub.tu (.cons (.nl 2) (.cons (Pub.e rfl) .nil))
 | some w =>
  rw [ha] at hA
  refine call_pc hA (by simp [go_sem, wts_pur, lls_pur, wns_pur]) ?_
  try simp (disch := omega) only [go_sem, jA, jB, jC, jD, jE, jF, jG, jH, jI, jJ, ↓reduceIte, reduceCtorEq, jO, jM, jN, jK, jL, wnv, Option.getD_some, Option.isSome_some, Bool.not_true]
  show Pub _ _ (.tuple [.list 2 (css w.cs), .bool true])
  exact Pub.tu (.cons (Pub.e (by simp [go_sem, css_pur])) (.cons (Pub.e rfl) .nil))
theorem ok_cause_Tick (b : Bo) (q : List Bool) (hd : Int) (h : BoL b) (hq : q.length ≤ 9223372036854775807) : PC prog n_cause_Tick [bov b, .list 1 (bls q), .int .i64 hd] (tickV b q hd) := by
 refine PC_of_body b_cause_Tick (by simp) ?_
 simp only [c_cause_Tick, bov]
 try simp (disch := omega) only [go_sem, jA, jB, jC, jD, jE, jF, jG, jH, jI, jJ, ↓reduceIte, reduceCtorEq, jO, jM, jN, jK, jL]
 have hC := ok_warning_Check b h
 simp only [bov] at hC
 refine call_pc hC (by simp [go_sem, wts_pur, lls_pur, wns_pur]) ?_
 cases hv : vdB b <;> try simp (disch := omega) only [go_sem, jA, jB, jC, jD, jE, jF, jG, jH, jI, jJ, ↓reduceIte, reduceCtorEq, jO, jM, jN, jK, jL, chkE, hv, wts_length, bls_length]
 ·exact tick_bad (by rw [tickE, if_pos hv]) (by omega)
 have hV := vdB_iff.1 hv
 have hp8 := hV.p
 refine cond_n (fun g1 => ?_) (fun g1 => ?_) <;> try simp (disch := omega) only [go_sem, jA, jB, jC, jD, jE, jF, jG, jH, jI, jJ, ↓reduceIte, reduceCtorEq, jO, jM, jN, jK, jL, wts_length, bls_length]
 ·exact tick_bad (by rw [tickE, if_neg (by simp [hv]), if_pos (by omega)]) (by omega)
 refine gd_fd rfl (fun g2 => ?_) (fun g2 => ?_) <;> try simp (disch := omega) only [go_sem, jA, jB, jC, jD, jE, jF, jG, jH, jI, jJ, ↓reduceIte, reduceCtorEq, jO, jM, jN, jK, jL, wts_length]
 ·exact tick_bad (by rw [tickE, if_neg (by simp [hv]), if_neg (by omega), if_pos (.inl g2)]) (by omega)
 refine cond_d (fun g3 => ?_) (fun g3 => ?_) <;> try simp (disch := omega) only [go_sem, jA, jB, jC, jD, jE, jF, jG, jH, jI, jJ, ↓reduceIte, reduceCtorEq, jO, jM, jN, jK, jL, wts_length]
 ·exact tick_bad (by rw [tickE, if_neg (by simp [hv]), if_neg (by omega), if_pos (.inr g3)]) (by omega)
 have hE : tickE b q hd = 0 := by rw [tickE, if_neg (by simp [hv]), if_neg (by omega), if_neg (by omega)]
 have hcp := ok_cause_copied b hV
 simp only [bov] at hcp
 refine call_pc hcp (by simp [go_sem, wts_pur, lls_pur, wns_pur]) ?_
 have ha8 := hV.a1
 try simp (disch := omega) only [go_sem, jA, jB, jC, jD, jE, jF, jG, jH, jI, jJ, ↓reduceIte, reduceCtorEq, jO, jM, jN, jK, jL, wns_length]
 refine awp_upG [10, 11, 13, 40, 41, 42, 43, 44, 45, 46, 47, 48, 49, 50, 51, 52, 53, 54, 55, 56, 57, 58, 59, 60, 61, 62, 63, 64, 65, 66, 67, 68, 69, 70, 71, 72, 73, 74, 75, 76, 77] (by kernel_rfl) b.ac.length (fun k e σ => e 40 = .int .i64 k ∧ 3 ≤ σ.n ∧ σ.ob 1 = some ⟨1, 3, 31, false, true, [.agg [.nil, .nil, .nil]]⟩ ∧ σ.ob 2 = some ⟨2, 3, 31, false, true, [.agg [.list 4 (wts b.ps), .list 1 (lls b.pa), .list 4 (wns b.ac)]]⟩ ∧
  ∃ A G, At e 10 A ∧ At e 11 G ∧ SlR 4 tyA σ (wns (tickL (b.ac.take k) q hd)) A ∧ SlR 1 3 σ (ints (goneL (b.ac.take k) q hd)) G ∧ (∀ i, ¬ Oth A i → 3 ≤ i ∧ Oth G i) ∧ (∀ i, ¬ Oth G i → 3 ≤ i)) ?_ ?_
 ·exact ⟨(by first | rfl | (simp (disch := omega) only [go_sem, jA, jB, jC, jD, jE, jF, jG, jH, jI, jJ, ↓reduceIte, reduceCtorEq, jP, jO, jM, jN]; try rfl)), by simp, (by first | rfl | (simp (disch := omega) only [go_sem, jA, jB, jC, jD, jE, jF, jG, jH, jI, jJ, ↓reduceIte, reduceCtorEq, jP, jO, jM, jN]; try rfl)), (by first | rfl | (simp (disch := omega) only [go_sem, jA, jB, jC, jD, jE, jF, jG, jH, jI, jJ, ↓reduceIte, reduceCtorEq, jP, jO, jM, jN]; try rfl)), .nil, .nil, (by simp only [At]; try simp (disch := omega) only [go_sem, jA, jB, jC, jD, jE, jF, jG, jH, jI, jJ, ↓reduceIte, reduceCtorEq, jO, jM, jN, jK, jL]), (by simp only [At]; try simp (disch := omega) only [go_sem, jA, jB, jC, jD, jE, jF, jG, jH, jI, jJ, ↓reduceIte, reduceCtorEq, jO, jM, jN, jK, jL]), SlR.nil, SlR.nil, fun i hi => absurd (Oth.nil i) hi, fun i hi => absurd (Oth.nil i) hi⟩
 rintro k fe ob m c hk hm ⟨h40, hm1, ho1, ho2, A, G, h10, h11, hA, hG, hAn, hGn⟩
 simp (maxSteps := 1000000) only [go_sem, jA, jB, jC, jD, jE, jF, jG, jH, jI, jJ, ↓reduceIte, reduceCtorEq, jP, At] at h40 hm hm1 ho1 ho2 h10 h11
 have lt1 := tickL_len (b.ac.take k) q hd
 have lg1 := goneL_len (b.ac.take k) q hd
 rw [List.length_take] at lt1 lg1
 try simp (disch := omega) only [go_sem, jA, jB, jC, jD, jE, jF, jG, jH, jI, jJ, ↓reduceIte, reduceCtorEq, jO, jM, jN, jK, jL, h40, wns_length]
 refine cond_d (fun hlt => ?_) (fun hge => ?_)
 ·have hkl : k < b.ac.length := by omega
  have hk2 : b.ac[k]? = some b.ac[k] := List.getElem?_eq_getElem hkl
  have hts := tickL_snoc (q := q) (h := hd) hk2
  have hgs := goneL_snoc (q := q) (h := hd) hk2
  have hpl := hV.lo _ (List.mem_of_getElem? hk2)
  have hwb := wnB_bd (hV.wn _ (List.mem_of_getElem? hk2))
  have hcl := wnB_cs (hV.wn _ (List.mem_of_getElem? hk2))
  generalize b.ac[k] = w at *
  have z1 : ¬ 1 = m := by omega
  have z2 : ¬ 2 = m := by omega
  have hqk : q[w.p.toNat]? = some (q.getD w.p.toNat false) := by
   have : w.p.toNat < q.length := by omega
   simp [List.getD_eq_getElem?_getD, List.getElem?_eq_getElem this]
  have oG : ∀ i, i < 3 → Oth G i := fun i hi => Oth.em fun h => by have := hGn i h; omega
  have oA : ∀ i, i < 3 → Oth A i := fun i hi => Oth.em fun h => by have := (hAn i h).1; omega
  have hcz : (0 < (w.cs.length : Int)) ↔ w.cs ≠ [] := by rw [← List.length_pos_iff]; omega
  -- a warning that stays
  have stay : ∀ (cm : Int) (ob' : Nat → Option AObj) (c' : Nat), goneS q hd w = false → calmS q w = cm → (∀ i, i < m → ob' i = ob i) → ∀ A' ob4 m4 c4, SlR 4 tyA ⟨ob4, m4, c4⟩ (wns (tickL (b.ac.take k) q hd) ++ [.agg [.int .i64 w.p, .int .i64 w.t, .list 2 (css w.cs), .int .i64 cm]]) A' → Kp ⟨ob', m + 1, c'⟩ A ⟨ob4, m4, c4⟩ A' →
    m ≤ m4 ∧ 3 ≤ m4 ∧ ob4 1 = some ⟨1, 3, 31, false, true, [.agg [.nil, .nil, .nil]]⟩ ∧ ob4 2 = some ⟨2, 3, 31, false, true, [.agg [.list 4 (wts b.ps), .list 1 (lls b.pa), .list 4 (wns b.ac)]]⟩ ∧ SlR 4 tyA ((⟨ob4, m4, c4⟩ : St).trunc m4) (wns (tickL (b.ac.take (k + 1)) q hd)) A' ∧
    SlR 1 3 ((⟨ob4, m4, c4⟩ : St).trunc m4) (ints (goneL (b.ac.take (k + 1)) q hd)) G ∧ (∀ i, ¬ Oth A' i → 3 ≤ i ∧ Oth G i) := fun cm ob' c' hng hcv hfr A' ob4 m4 c4 hA' kA => by
   have q1 : m + 1 ≤ m4 := kA.1
   have q2 : ∀ i, i < m → Oth A i → ob4 i = ob i := fun i hi hh => (kA.2.1 i (by simp only; omega) hh).trans (hfr i hi)
   refine ⟨by omega, by omega, (q2 1 (by omega) (oA 1 (by omega))).trans ho1, (q2 2 (by omega) (oA 2 (by omega))).trans ho2, ?_, ?_, fun i hi => ?_⟩
   ·rw [hts, hng, if_neg (by simp), ← wns_snoc, wnv, hcv]; exact hA'.tr
   ·rw [hgs, hng, if_neg (by simp), List.append_nil]
    refine (SlR.tr (ob := _) (n := m4) (c := c4) (hG.move (by simp only; omega) fun i hi hh => ?_))
    simp only at hi ⊢
    exact q2 i hi (Oth.em fun h => hh (hAn i h).2)
   ·by_cases him : i < m
    ·exact hAn i fun hh => hi (kA.2.2 i (by simp only; omega) hh)
    ·exact ⟨by omega, hG.oth (by simp only; omega)⟩
  try simp (disch := omega) only [go_sem, jA, jB, jC, jD, jE, jF, jG, jH, jI, jJ, ↓reduceIte, reduceCtorEq, jO, jM, jN, jK, jL, h40, wns_length, wns_get, hk2, Option.map_some, wnv, z1, z2, css_length]
  refine ⟨by omega, by omega, ?_⟩
  refine gd_fd rfl (fun g4 => ?_) (fun g4 => ?_)
  ·have hcs := hcz.1 g4
   have hcv : calmS q w = 0 := by rw [calmS, if_pos (.inl hcs)]
   have hng : goneS q hd w = false := by simp [goneS, hcs]
   try simp (disch := omega) only [go_sem, jA, jB, jC, jD, jE, jF, jG, jH, jI, jJ, ↓reduceIte, reduceCtorEq, jO, jM, jN, jK, jL, z1, z2, h10]
   refine app_slr (L := wns (tickL (b.ac.take k) q hd)) (b := 48) (hA.move (by simp only; omega) fun i hi _ => ?_) (by rw [wns_length]; omega) (by rw [wns_length]; omega) fun A' τ hA' kA => ?_
   ·simp only at hi ⊢
    rw [upd_ne _ _ _ _ (by omega), upd_ne _ _ _ _ (by omega), upd_ne _ _ _ _ (by omega)]
   obtain ⟨ob4, m4, c4⟩ := τ
   obtain ⟨s1, s2, s3, s4, s5, s6, s7⟩ := stay 0 _ _ hng hcv (fun i hi => by rw [upd_ne _ _ _ _ (by omega), upd_ne _ _ _ _ (by omega), upd_ne _ _ _ _ (by omega)]) A' ob4 m4 c4 hA' kA
   try simp (disch := omega) only [go_sem, jA, jB, jC, jD, jE, jF, jG, jH, jI, jJ, ↓reduceIte, reduceCtorEq, jO, jM, jN, jK, jL]
   exact up_nextG m4 hkl s2 ⟨(by first | rfl | (simp (disch := omega) only [go_sem, jA, jB, jC, jD, jE, jF, jG, jH, jI, jJ, ↓reduceIte, reduceCtorEq, jP, jO, jM, jN]; try rfl)), by simp only [St.trunc]; omega, by rw [tr_ob (by omega)]; exact s3, by rw [tr_ob (by omega)]; exact s4, A', G, (by simp only [At]; try simp (disch := omega) only [go_sem, jA, jB, jC, jD, jE, jF, jG, jH, jI, jJ, ↓reduceIte, reduceCtorEq, jO, jM, jN, jK, jL]), (by simp only [At]; try simp (disch := omega) only [go_sem, jA, jB, jC, jD, jE, jF, jG, jH, jI, jJ, ↓reduceIte, reduceCtorEq, jO, jM, jN, jK, jL, h11]), s5, s6, s7, hGn⟩
  ·have hcs : w.cs = [] := Classical.byContradiction fun h => g4 (hcz.2 h)
   try simp (disch := omega) only [go_sem, jA, jB, jC, jD, jE, jF, jG, jH, jI, jJ, ↓reduceIte, reduceCtorEq, jO, jM, jN, jK, jL, z1, z2, bls_length, bls_get, hqk, Option.map_some]
   refine ⟨by omega, by omega, ?_⟩
   cases hqq : q.getD w.p.toNat false
   ·have hcv : calmS q w = 0 := by rw [calmS, if_pos (.inr hqq)]
    have hng : goneS q hd w = false := by rw [goneS, hqq]; simp
    try simp (disch := omega) only [go_sem, jA, jB, jC, jD, jE, jF, jG, jH, jI, jJ, ↓reduceIte, reduceCtorEq, jO, jM, jN, jK, jL, z1, z2, h10]
    refine app_slr (L := wns (tickL (b.ac.take k) q hd)) (b := 48) (hA.move (by simp only; omega) fun i hi _ => ?_) (by rw [wns_length]; omega) (by rw [wns_length]; omega) fun A' τ hA' kA => ?_
    ·simp only at hi ⊢
     rw [upd_ne _ _ _ _ (by omega), upd_ne _ _ _ _ (by omega), upd_ne _ _ _ _ (by omega)]
    obtain ⟨ob4, m4, c4⟩ := τ
    obtain ⟨s1, s2, s3, s4, s5, s6, s7⟩ := stay 0 _ _ hng hcv (fun i hi => by rw [upd_ne _ _ _ _ (by omega), upd_ne _ _ _ _ (by omega), upd_ne _ _ _ _ (by omega)]) A' ob4 m4 c4 hA' kA
    try simp (disch := omega) only [go_sem, jA, jB, jC, jD, jE, jF, jG, jH, jI, jJ, ↓reduceIte, reduceCtorEq, jO, jM, jN, jK, jL]
    exact up_nextG m4 hkl s2 ⟨(by first | rfl | (simp (disch := omega) only [go_sem, jA, jB, jC, jD, jE, jF, jG, jH, jI, jJ, ↓reduceIte, reduceCtorEq, jP, jO, jM, jN]; try rfl)), by simp only [St.trunc]; omega, by rw [tr_ob (by omega)]; exact s3, by rw [tr_ob (by omega)]; exact s4, A', G, (by simp only [At]; try simp (disch := omega) only [go_sem, jA, jB, jC, jD, jE, jF, jG, jH, jI, jJ, ↓reduceIte, reduceCtorEq, jO, jM, jN, jK, jL]), (by simp only [At]; try simp (disch := omega) only [go_sem, jA, jB, jC, jD, jE, jF, jG, jH, jI, jJ, ↓reduceIte, reduceCtorEq, jO, jM, jN, jK, jL, h11]), s5, s6, s7, hGn⟩
   ·have hcv : calmS q w = w.cm + 1 := by rw [calmS, if_neg (by rw [hqq]; simp [hcs])]
    try simp (disch := omega) only [go_sem, jA, jB, jC, jD, jE, jF, jG, jH, jI, jJ, ↓reduceIte, reduceCtorEq, jO, jM, jN, jK, jL, z1, z2]
    refine cond_d (fun g5 => ?_) (fun g5 => ?_)
    ·have hng : goneS q hd w = true := by rw [goneS, hqq]; simp [hcs]; omega
     try simp (disch := omega) only [go_sem, jA, jB, jC, jD, jE, jF, jG, jH, jI, jJ, ↓reduceIte, reduceCtorEq, jO, jM, jN, jK, jL, h11, z1, z2]
     refine app_slr (L := ints (goneL (b.ac.take k) q hd)) (b := 8) (hG.move (by simp only; omega) fun i hi _ => ?_) (by rw [ints_length]; omega) (by rw [ints_length]; omega) fun G' τ hG' kG => ?_
     ·simp only at hi ⊢
      rw [upd_ne _ _ _ _ (by omega), upd_ne _ _ _ _ (by omega)]
     obtain ⟨ob4, m4, c4⟩ := τ
     have q1 : m + 1 ≤ m4 := kG.1
     have q2 : ∀ i, i < m → Oth G i → ob4 i = ob i := fun i hi hh => (kG.2.1 i (by simp only; omega) hh).trans (by simp only; rw [upd_ne _ _ _ _ (by omega), upd_ne _ _ _ _ (by omega)])
     try simp (disch := omega) only [go_sem, jA, jB, jC, jD, jE, jF, jG, jH, jI, jJ, ↓reduceIte, reduceCtorEq, jO, jM, jN, jK, jL, h40]
     refine up_nextG m4 hkl (by omega) ⟨(by first | rfl | (simp (disch := omega) only [go_sem, jA, jB, jC, jD, jE, jF, jG, jH, jI, jJ, ↓reduceIte, reduceCtorEq, jP, jO, jM, jN]; try rfl)), by simp only [St.trunc]; omega, ?_, ?_, A, G', (by simp only [At]; try simp (disch := omega) only [go_sem, jA, jB, jC, jD, jE, jF, jG, jH, jI, jJ, ↓reduceIte, reduceCtorEq, jO, jM, jN, jK, jL, h10]), (by simp only [At]; try simp (disch := omega) only [go_sem, jA, jB, jC, jD, jE, jF, jG, jH, jI, jJ, ↓reduceIte, reduceCtorEq, jO, jM, jN, jK, jL]), ?_, ?_, fun i hi => ⟨(hAn i hi).1, kG.2.2 i (by simp only; have := hA.lt hi; simp only at this; omega) (hAn i hi).2⟩, fun i hi => Nat.le_of_not_lt fun hh => hi (kG.2.2 i (by simp only; omega) (oG i hh))⟩
     ·rw [tr_ob (by omega), q2 1 (by omega) (oG 1 (by omega)), ho1]
     ·rw [tr_ob (by omega), q2 2 (by omega) (oG 2 (by omega)), ho2]
     ·rw [hts, hng, if_pos rfl, List.append_nil]
      refine SlR.tr (ob := _) (n := m4) (c := c4) (hA.move (by simp only; omega) fun i hi hh => ?_)
      exact q2 i hi (hAn i hh).2
     ·rw [hgs, hng, if_pos rfl, ← ints_append]
      exact SlR.tr hG'
    ·have hng : goneS q hd w = false := by rw [goneS, hqq]; simp; omega
     try simp (disch := omega) only [go_sem, jA, jB, jC, jD, jE, jF, jG, jH, jI, jJ, ↓reduceIte, reduceCtorEq, jO, jM, jN, jK, jL, z1, z2, h10]
     refine app_slr (L := wns (tickL (b.ac.take k) q hd)) (b := 48) (hA.move (by simp only; omega) fun i hi _ => ?_) (by rw [wns_length]; omega) (by rw [wns_length]; omega) fun A' τ hA' kA => ?_
     ·simp only at hi ⊢
      rw [upd_ne _ _ _ _ (by omega), upd_ne _ _ _ _ (by omega), upd_ne _ _ _ _ (by omega)]
     obtain ⟨ob4, m4, c4⟩ := τ
     obtain ⟨s1, s2, s3, s4, s5, s6, s7⟩ := stay (w.cm + 1) _ _ hng hcv (fun i hi => by rw [upd_ne _ _ _ _ (by omega), upd_ne _ _ _ _ (by omega), upd_ne _ _ _ _ (by omega)]) A' ob4 m4 c4 hA' kA
     try simp (disch := omega) only [go_sem, jA, jB, jC, jD, jE, jF, jG, jH, jI, jJ, ↓reduceIte, reduceCtorEq, jO, jM, jN, jK, jL]
     exact up_nextG m4 hkl s2 ⟨(by first | rfl | (simp (disch := omega) only [go_sem, jA, jB, jC, jD, jE, jF, jG, jH, jI, jJ, ↓reduceIte, reduceCtorEq, jP, jO, jM, jN]; try rfl)), by simp only [St.trunc]; omega, by rw [tr_ob (by omega)]; exact s3, by rw [tr_ob (by omega)]; exact s4, A', G, (by simp only [At]; try simp (disch := omega) only [go_sem, jA, jB, jC, jD, jE, jF, jG, jH, jI, jJ, ↓reduceIte, reduceCtorEq, jO, jM, jN, jK, jL]), (by simp only [At]; try simp (disch := omega) only [go_sem, jA, jB, jC, jD, jE, jF, jG, jH, jI, jJ, ↓reduceIte, reduceCtorEq, jO, jM, jN, jK, jL, h11]), s5, s6, s7, hGn⟩
 ·obtain rfl : k = b.ac.length := by omega
  rw [List.take_length] at hA hG
  try simp (disch := omega) only [go_sem, jA, jB, jC, jD, jE, jF, jG, jH, jI, jJ, ↓reduceIte, reduceCtorEq, jO, jM, jN, jK, jL, ho1, ho2, h10, h11, hA.one, hG.one, hA.flat, hA.cells]
  rw [tickV, hE, tickR, if_pos hE]
  show Pub _ _ (.tuple [.agg [.list 4 (wts b.ps), .list 1 (lls b.pa), .list 4 (wns (tickL b.ac q hd))], .list 1 (ints (goneL b.ac q hd)), .int .i64 0])
  refine Pub.tu (.cons (Pub.ag (.cons (Pub.e (by simp [go_sem, wts_pur])) (.cons (Pub.e (by simp [go_sem, lls_pur])) (.cons (hA.pub (fun i hi hh => ?_) (wns_pur _) (wns_ok _)) .nil)))) (.cons (hG.pub (fun i _ hh => ?_) (ints_pur _) (ints_ok _)) (.cons (Pub.e rfl) .nil)))
  ·have := (hAn i hh).1
   simp only
   rw [upd_ne _ _ _ _ (by omega), upd_ne _ _ _ _ (by omega)]
  ·have := hGn i hh
   simp only
   rw [upd_ne _ _ _ _ (by omega), upd_ne _ _ _ _ (by omega)]
theorem mid_pl {pre post : List Wn} {W : Wn} {p : Int} (h1 : ∀ a ∈ pre, a.p < p) (hW : W.p = p) : plI (pre ++ W :: post) p = pre.length ∧ plB (pre ++ W :: post) p = true ∧ gA (pre ++ W :: post) pre.length = W := by
 have hg : (pre ++ W :: post)[pre.length]? = some W := by rw [List.getElem?_append_right (Nat.le_refl _)]; simp
 have hI : plI (pre ++ W :: post) p = pre.length := by
  refine idx_at (by simp) (fun j hj y hy => ?_) ?_
  ·rw [List.getElem?_append_left hj] at hy
   have := h1 y (List.mem_of_getElem? hy)
   rw [decide_eq_false_iff_not]; omega
  ·have : (pre ++ W :: post)[pre.length]'(by simp) = W := by simp
   rw [this]; simp [hW]
 refine ⟨hI, ?_, ?_⟩
 ·rw [plB, hI, hg]; simp [hW]
 ·rw [gA, List.getD_eq_getElem?_getD, hg]; rfl
theorem mid_put {pre post : List Wn} {W : Wn} {p : Int} (h1 : ∀ a ∈ pre, a.p < p) (hW : W.p = p) (cs : List Cs) : putC (pre ++ W :: post) (plI (pre ++ W :: post) p) cs = pre ++ ⟨W.p, W.t, cs, W.cm⟩ :: post := by
 obtain ⟨e1, _, e3⟩ := mid_pl (post := post) h1 hW
 rw [putC, e1, e3, List.take_left' rfl, List.drop_append]
 simp
theorem mid_find {pre post : List Wn} {W : Wn} {p : Int} (h1 : ∀ a ∈ pre, a.p < p) (hW : W.p = p) : (pre ++ W :: post).find? (fun w => decide (w.p = p)) = some W := by
 rw [List.find?_append]
 have : pre.find? (fun w => decide (w.p = p)) = none := by
  rw [List.find?_eq_none]; intro x hx; have := h1 x hx; simp; omega
 rw [this, List.find?_cons_of_pos (by simp [hW])]; rfl
theorem act_no_pl {l : List Wn} {p : Int} (hp : l.Pairwise fun a b => a.p < b.p) (hb : plB l p = false) : l.find? (fun w => decide (w.p = p)) = none := by
 obtain ⟨h1, h2⟩ := plI_ins (p := p) hp
 rw [jAt, if_neg (by simp [hb])] at h2
 rw [List.find?_eq_none]
 intro x hx
 rw [← List.take_append_drop (plI l p) l] at hx
 rcases List.mem_append.1 hx with hx | hx
 ·have := h1 x hx; simp; omega
 ·have := h2 x hx; simp; omega
theorem split_pl {l : List Wn} {p : Int} (hb : plB l p = true) : l = l.take (plI l p) ++ gA l (plI l p) :: l.drop (plI l p + 1) := by
 obtain ⟨h1, h2, h3⟩ := plB_get hb
 exact (take_mid h2).symm
theorem act_pl {b : Bo} {p : Int} (h : Vb b) : actO b p = if plB b.ac p then some (gA b.ac (plI b.ac p)) else none := by
 rw [actO, if_pos (vdB_iff.2 h)]
 cases hb : plB b.ac p
 ·rw [act_no_pl h.ac_pw hb]; rfl
 ·obtain ⟨h1, h2⟩ := plI_ins (p := p) h.ac_pw
  have h3 := mid_find (post := b.ac.drop (plI b.ac p + 1)) h1 (plB_get hb).2.2
  rw [← split_pl hb] at h3
  rw [h3, if_pos rfl]
theorem addC_contains {l : List Cs} {c : Cs} (h : cauB l = true) : (addC l c).contains c = true := by
 rw [addC]
 split
 ·rename_i hb; rw [← hsB_contains h]; exact hb
 ·rw [List.contains_iff_mem]; simp
theorem addC_twice {l : List Cs} {c : Cs} (h : cauB l = true) (hc : csB c = true) : addC (addC l c) c = addC l c := by
 rw [addC, if_pos (by rw [hsB_contains (addC_ok h hc)]; exact addC_contains h)]
theorem addC_len {l : List Cs} {c : Cs} (hb : hsB l c = false) : (addC l c).length = l.length + 1 := by
 have := hsI_le l c
 rw [addC, if_neg (by simp [hb])]; simp; omega
theorem delC_addC {l : List Cs} {c : Cs} (h : cauB l = true) (hb : hsB l c = false) : delC (addC l c) c = l := by
 have hn : ∀ x ∈ l, x ≠ c := fun x hx e => by
  rw [hsB_contains h] at hb; subst e
  have : l.contains x = true := by rw [List.contains_iff_mem]; exact hx
  rw [this] at hb; cases hb
 have h1 : (l.take (hsI l c)).filter (fun x => !decide (x = c)) = l.take (hsI l c) := by rw [List.filter_eq_self]; intro a ha; simp [hn a (List.mem_of_mem_take ha)]
 have h2 : (l.drop (hsI l c)).filter (fun x => !decide (x = c)) = l.drop (hsI l c) := by rw [List.filter_eq_self]; intro a ha; simp [hn a (List.mem_of_mem_drop ha)]
 rw [addC, if_neg (by simp [hb]), delC, List.filter_append, List.filter_cons_of_neg (by simp), h1, h2, List.take_append_drop]
theorem delC_ok {l : List Cs} (c : Cs) (h : cauB l = true) : cauB (delC l c) = true := by
 rw [cau_iff] at h ⊢
 exact ⟨fun x hx => h.1 x (List.mem_filter.1 hx).1, h.2.filter _⟩
structure IssW (b : Bo) (p t : Int) (c : Cs) (pre post : List Wn) (W : Wn) : Prop where
 e : (issB b p t c) = ⟨b.ps, b.pa, pre ++ W :: post⟩
 lo : ∀ a ∈ pre, a.p < p
 w : W.p = p
 cs : W.cs = addC ((actO b p).getD wnZ).cs c
 cm : W.cm = 0
 t : (actO b p).isSome = false → W.t = t
theorem Vb.issW {b : Bo} {p t : Int} {c : Cs} (h : Vb b) : ∃ pre post W, IssW b p t c pre post W := by
 obtain ⟨h1, h2⟩ := plI_ins (p := p) h.ac_pw
 refine ⟨_, _, _, rfl, h1, wAt_p _ _ _, ?_, rfl, ?_⟩
 ·rw [act_pl h]
  cases hb : plB b.ac p <;> simp [wAt, hb, wnZ]
 ·rw [act_pl h]
  cases hb : plB b.ac p <;> simp [wAt, hb]
theorem Vb.cs_at {b : Bo} (h : Vb b) (p : Int) : cauB ((actO b p).getD wnZ).cs = true := by
 cases ha : actO b p with
 | none => rfl
 | some w =>
  rw [act_pl h] at ha
  cases hb : plB b.ac p
  ·simp [hb] at ha
  ·simp only [hb, if_true, Option.some.injEq] at ha
   subst ha
   exact (wnB_bd (h.wn _ (List.mem_of_getElem? (plB_get hb).2.1))).2.2.2.2.1
theorem IssW.act {b : Bo} {p t : Int} {c : Cs} {pre post : List Wn} {W : Wn} (h : IssW b p t c pre post W) (hv : Vb (issB b p t c)) : actO (issB b p t c) p = some W := by
 rw [actO, if_pos (vdB_iff.2 hv), h.e]; exact mid_find h.lo h.w
theorem IssW.twice {b : Bo} {p t t2 : Int} {c : Cs} {pre post : List Wn} {W : Wn} (h : IssW b p t c pre post W) (hb : Vb b) (hc : csB c = true) : issB (issB b p t c) p t2 c = issB b p t c := by
 obtain ⟨e1, e2, e3⟩ := mid_pl (post := post) h.lo h.w
 have hcs : addC W.cs c = W.cs := by rw [h.cs]; exact addC_twice (hb.cs_at p) hc
 rw [h.e, issB, issL, wAt, jAt, if_pos e2, if_pos e2, e1, e3, hcs, List.take_left' rfl, List.drop_append]
 have hW : (⟨W.p, W.t, W.cs, 0⟩ : Wn) = W := by have := h.cm; cases W; simp_all
 simp [hW]
theorem IssW.endd {b : Bo} {p t : Int} {c : Cs} {pre post : List Wn} {W : Wn} (h : IssW b p t c pre post W) (hb : Vb b) (hv : Vb (issB b p t c)) (hp : 0 ≤ p ∧ p < b.ps.length) (hc : csB c = true) :
  endE (issB b p t c) p c = 0 ∧ endB (issB b p t c) p c = ⟨b.ps, b.pa, pre ++ ⟨W.p, W.t, delC W.cs c, W.cm⟩ :: post⟩ := by
 obtain ⟨e1, e2, e3⟩ := mid_pl (post := post) h.lo h.w
 have hcs : hsB W.cs c = true := by rw [h.cs, hsB_contains (addC_ok (hb.cs_at p) hc)]; exact addC_contains (hb.cs_at p)
 refine ⟨?_, ?_⟩
 ·rw [endE, if_neg (by simp [vdB_iff.2 hv])]
  rw [h.e]
  simp only
  rw [if_neg (by omega), if_neg (by simp [e2]), e1, e3, if_pos hcs]
 ·rw [endB, h.e, endL, e1, e3]
  have := mid_put (post := post) h.lo h.w (delC W.cs c)
  rw [e1] at this
  simp only [this]
theorem IssW.vend {b : Bo} {p t : Int} {c : Cs} {pre post : List Wn} {W : Wn} (h : IssW b p t c pre post W) (hv : Vb (issB b p t c)) : Vb ⟨b.ps, b.pa, pre ++ ⟨W.p, W.t, delC W.cs c, W.cm⟩ :: post⟩ := by
 have h1 := ac_iff.1 hv.c
 rw [h.e] at h1
 obtain ⟨h2, h3⟩ := h1
 have hV2 : Vb ⟨b.ps, b.pa, pre ++ W :: post⟩ := by rw [← h.e]; exact hv
 refine hV2.mk_ac (fun w hw => ?_) ?_
 ·rcases List.mem_append.1 hw with hw | hw
  ·exact h2 w (List.mem_append_left _ hw)
  ·rcases List.mem_cons.1 hw with rfl | hw
   ·obtain ⟨a1, a2, a3⟩ := h2 W (List.mem_append_right _ (List.mem_cons_self ..))
    refine ⟨a1, a2, ?_⟩
    have hb := wnB_bd a3
    simp only [wnB, Bool.and_eq_true, decide_eq_true_eq, Bool.or_eq_true] at a3 ⊢
    exact ⟨⟨⟨a3.1.1.1, delC_ok c a3.1.1.2⟩, a3.1.2⟩, .inr h.cm⟩
   ·exact h2 w (List.mem_append_right _ (List.mem_cons_of_mem _ hw))
 ·rw [List.pairwise_append, List.pairwise_cons] at h3 ⊢
  refine ⟨h3.1, h3.2.1, fun a ha b' hb' => ?_⟩
  rcases List.mem_cons.1 hb' with rfl | hb'
  ·exact h3.2.2 a ha W (List.mem_cons_self ..)
  ·exact h3.2.2 a ha b' (List.mem_cons_of_mem _ hb')
theorem NlR.list1 {l l' : List AV} (h : NlRs l l') (h1 : ∀ x ∈ l, x.cells = [x]) (h2 : ∀ x ∈ l', okE 1 x ∧ x.cells = [x]) : NlR (.list 1 l) (.list 1 l') := fun S w v hv => by
 obtain ⟨hl, hg⟩ := h.get
 cases hv with
 | listNil es a c =>
  have : l' = [] := List.eq_nil_of_length_eq_zero (by rw [← hl]; rfl)
  subst this
  exact .listNil _ _ _
 | list f hl0 hcap hS hc hw hvv =>
  rw [hl] at hcap hw ⊢
  refine .list f (fun e => ?_) hcap hS (fun i x hx => (h2 x (List.mem_of_getElem? hx)).1) hw fun i x j y hx hy => ?_
  ·subst e
   exact hl0 (List.eq_nil_of_length_eq_zero hl)
  ·obtain ⟨z, hz, hr⟩ := hg i x hx
   rw [(h2 x (List.mem_of_getElem? hx)).2] at hy
   have hj : j = 0 := by have := (List.getElem?_eq_some_iff.1 hy).1; simpa using this
   subst hj
   obtain rfl : x = y := by simpa using hy
   exact hr _ _ _ (hvv i z 0 z hz (by rw [h1 z (List.mem_of_getElem? hz)]; rfl))
def ex37 (l : List Wn) : Bo := ⟨[⟨0, 1, 0, 1⟩], [[]], l⟩
theorem ex37_sz (cs : List Cs) (h : cs.length ≤ 3) (cm : Int) : BoL (ex37 [⟨0, 7, cs, cm⟩]) := ⟨by simp [ex37], by simp [ex37], by intro x hx; simp [ex37] at hx; subst hx; simp, by simp [ex37], by intro w hw; simp [ex37] at hw; subst hw; simp; omega⟩
theorem ex37_sz0 : BoL (ex37 []) := ⟨by simp [ex37], by simp [ex37], by intro x hx; simp [ex37] at hx; subst hx; simp, by simp [ex37], by intro w hw; simp [ex37] at hw⟩
theorem ok_law37_sane : PC prog n_law37_sane [] (.bool true) := by
 refine PC_of_body b_law37_sane (by simp) ?_
 simp only [c_law37_sane, go_sem, jA, jB, jC, jD, jE, jF, jG, jH, jI, jJ, ↓reduceIte, reduceCtorEq, jP]
 have h1 : PC prog n_cause_Issue [bov (ex37 []), .int .i64 0, .int .i64 7, csv ⟨2, 1⟩] (.tuple [bov (ex37 [⟨0, 7, [⟨2, 1⟩], 0⟩]), .int .i64 0]) := ok_cause_Issue (ex37 []) 0 7 ⟨2, 1⟩ ex37_sz0
 have h2 : PC prog n_cause_Causes [bov (ex37 [⟨0, 7, [⟨2, 1⟩], 0⟩]), .int .i64 0] (.tuple [.list 2 [csv ⟨2, 1⟩], .bool true]) := ok_cause_Causes _ 0 (ex37_sz _ (by simp) _)
 have h3 : PC prog n_cause_Tick [bov (ex37 [⟨0, 7, [⟨2, 1⟩], 0⟩]), .list 1 [.bool true], .int .i64 2] (.tuple [bov (ex37 [⟨0, 7, [⟨2, 1⟩], 0⟩]), .list 1 [], .int .i64 0]) := ok_cause_Tick _ [true] 2 (ex37_sz _ (by simp) _) (by simp)
 have h4 : PC prog n_cause_End [bov (ex37 [⟨0, 7, [⟨2, 1⟩], 0⟩]), .int .i64 0, csv ⟨2, 1⟩] (.tuple [bov (ex37 [⟨0, 7, [], 0⟩]), .int .i64 0]) := ok_cause_End _ 0 ⟨2, 1⟩ (ex37_sz _ (by simp) _)
 have h5 : PC prog n_cause_Tick [bov (ex37 [⟨0, 7, [], 0⟩]), .list 1 [.bool true], .int .i64 2] (.tuple [bov (ex37 [⟨0, 7, [], 1⟩]), .list 1 [], .int .i64 0]) := ok_cause_Tick _ [true] 2 (ex37_sz _ (by simp) _) (by simp)
 have h6 : PC prog n_cause_Tick [bov (ex37 [⟨0, 7, [], 1⟩]), .list 1 [.bool true], .int .i64 2] (.tuple [bov (ex37 []), .list 1 [.int .i64 0], .int .i64 0]) := ok_cause_Tick _ [true] 2 (ex37_sz _ (by simp) _) (by simp)
 have hn : NlR (.agg [.list 4 [.agg [.int .i64 0, .int .i64 1, .int .i64 0, .int .i64 1]], .list 1 [.nil], .nil]) (bov (ex37 [])) := .agg (.cons .rfl (.cons (NlR.list1 (l := [.nil]) (l' := [.list 1 []]) (.cons (.nil 1) .nil) (fun x hx => by simp at hx; subst hx; rfl) (fun x hx => by simp at hx; subst hx; exact ⟨⟨rfl, rfl⟩, rfl⟩)) (.cons (.nil 4) .nil)))
 have h1' := pc_nl h1 (.cons hn (NlRs.refl _))
 simp only [bov, ex37, wts, wtv, lls, ints, wns, wnv, css, csv, List.map_cons, List.map_nil] at h1' h2 h3 h4 h5 h6
 try simp (disch := omega) only [go_sem, jA, jB, jC, jD, jE, jF, jG, jH, jI, jJ, ↓reduceIte, reduceCtorEq, jO, jM, jN, jK, jL]
 refine call_pc h1' (by simp [go_sem]) ?_
 try simp (disch := omega) only [go_sem, jA, jB, jC, jD, jE, jF, jG, jH, jI, jJ, ↓reduceIte, reduceCtorEq, jO, jM, jN, jK, jL]
 refine call_pc h2 (by simp [go_sem]) ?_
 try simp (disch := omega) only [go_sem, jA, jB, jC, jD, jE, jF, jG, jH, jI, jJ, ↓reduceIte, reduceCtorEq, jO, jM, jN, jK, jL]
 refine call_pc h3 (by simp [go_sem]) ?_
 try simp (disch := omega) only [go_sem, jA, jB, jC, jD, jE, jF, jG, jH, jI, jJ, ↓reduceIte, reduceCtorEq, jO, jM, jN, jK, jL]
 refine call_pc h4 (by simp [go_sem]) ?_
 try simp (disch := omega) only [go_sem, jA, jB, jC, jD, jE, jF, jG, jH, jI, jJ, ↓reduceIte, reduceCtorEq, jO, jM, jN, jK, jL]
 refine call_pc h5 (by simp [go_sem]) ?_
 try simp (disch := omega) only [go_sem, jA, jB, jC, jD, jE, jF, jG, jH, jI, jJ, ↓reduceIte, reduceCtorEq, jO, jM, jN, jK, jL]
 refine call_pc h6 (by simp [go_sem]) ?_
 try simp (disch := omega) only [go_sem, jA, jB, jC, jD, jE, jF, jG, jH, jI, jJ, ↓reduceIte, reduceCtorEq, jO, jM, jN, jK, jL]
 exact Pub.pure rfl
theorem ok_law37_CauseTwice (t : List Int) (point time : Int) (hpt : 0 ≤ point ∧ point ≤ 255) (htm : 0 ≤ time ∧ time ≤ 255) : PC prog n_law37_CauseTwice [.list 1 (ints t), .int .u8 point, .int .u8 time] (.bool true) := by
 refine PC_of_body b_law37_CauseTwice (by simp) ?_
 simp only [c_law37_CauseTwice, go_sem, jA, jB, jC, jD, jE, jF, jG, jH, jI, jJ, ↓reduceIte, reduceCtorEq, jP]
 try simp (disch := omega) only [go_sem, jA, jB, jC, jD, jE, jF, jG, jH, jI, jJ, ↓reduceIte, reduceCtorEq, jO, jM, jN, jK, jL]
 refine call_pc ok_law37_sane (by simp) ?_
 try simp (disch := omega) only [go_sem, jA, jB, jC, jD, jE, jF, jG, jH, jI, jJ, ↓reduceIte, reduceCtorEq, jO, jM, jN, jK, jL]
 refine call_pc (ok_mk_Few t) (by simp [go_sem]) ?_
 try simp (disch := omega) only [go_sem, jA, jB, jC, jD, jE, jF, jG, jH, jI, jJ, ↓reduceIte, reduceCtorEq, jO, jM, jN, jK, jL]
 cases hfew : fewB t
 ·try simp (disch := omega) only [go_sem, jA, jB, jC, jD, jE, jF, jG, jH, jI, jJ, ↓reduceIte, reduceCtorEq, jO, jM, jN, jK, jL]
  exact Pub.pure rfl
 have hlt : t.length ≤ 9223372036854775807 := by simp [fewB] at hfew; omega
 try simp (disch := omega) only [go_sem, jA, jB, jC, jD, jE, jF, jG, jH, jI, jJ, ↓reduceIte, reduceCtorEq, jO, jM, jN, jK, jL]
 refine call_hc (ok_mk_New _ t) ?_
 try simp (disch := omega) only [go_sem, jA, jB, jC, jD, jE, jF, jG, jH, jI, jJ, ↓reduceIte, reduceCtorEq, jO, jM, jN, jK, jL]
 refine (hc_flow_Board _ 0 0 t 0 hlt (by simp only [St.push]; omega) (by try simp (disch := omega) only [go_sem, jA, jB, jC, jD, jE, jF, jG, jH, jI, jJ, ↓reduceIte, reduceCtorEq, jO, jM, jN, jK, jL])).mono ?_
 intro r τ hD
 obtain ⟨⟨b, rfl, hB⟩, hn, ⟨at1, hd⟩, -⟩ := hD.use (by simp only [St.push]; omega)
 obtain ⟨ob1, m1, c1⟩ := τ
 simp only [St.push] at hn hd
 subst hn
 clear hD
 have hV := hB.v
 have hl1 := hB.p.1
 have hl3 := hB.p.2.1
 have hbv := bov_pur b
 try simp (disch := omega) only [go_sem, jA, jB, jC, jD, jE, jF, jG, jH, jI, jJ, ↓reduceIte, reduceCtorEq, jO, jM, jN, jK, jL, bov, wts_length]
 have hrem : (point.tmod (b.ps.length : Int)) = point % (b.ps.length : Int) := Int.tmod_eq_emod_of_nonneg hpt.1
 have hp0 : 0 ≤ point % (b.ps.length : Int) := Int.emod_nonneg _ (by omega)
 have hp1 : point % (b.ps.length : Int) < b.ps.length := Int.emod_lt_of_pos _ (by omega)
 rw [hrem]
 generalize point % (b.ps.length : Int) = p at *
 refine ⟨by omega, ?_⟩
 refine (hc_flow_Cause _ 0 0 t at1 hlt (by simp only; omega) (by try simp (disch := omega) only [go_sem, jA, jB, jC, jD, jE, jF, jG, jH, jI, jJ, ↓reduceIte, reduceCtorEq, jO, jM, jN, jK, jL]; exact hd)).mono ?_
 intro r τ hD
 obtain ⟨⟨c, rfl, hc⟩, hn, -, hf⟩ := hD.use (by simp only; omega)
 obtain ⟨ob2, m2, c2⟩ := τ
 simp only at hn hf
 subst hn
 have u1 := hf 1 (by omega) (by omega)
 try simp (disch := omega) only [go_sem, jA, jB, jC, jD, jE, jF, jG, jH, jI, jJ, ↓reduceIte, reduceCtorEq, jO, jM, jN, jK, jL] at u1
 clear hD hf hd
 obtain ⟨pre, post, W, hI⟩ := hV.issW (p := p) (t := time) (c := c)
 have hVx := hV.iss (p := p) (t := time) (c := c) ⟨hp0, hp1⟩ (by omega) hc
 have hE0 : issE b p time c = 0 := by rw [issE, if_neg (by simp [vdB_iff.2 hV]), if_neg (by omega), if_neg (by omega), cauE_csB.2 hc]
 have hE1 : issE (issB b p time c) p 99 c = 0 := by rw [issE, if_neg (by simp [vdB_iff.2 hVx]), if_neg (by simp only [issB]; omega), if_neg (by omega), cauE_csB.2 hc]
 obtain ⟨hE2, hEz⟩ := hI.endd hV hVx ⟨hp0, hp1⟩ hc
 have hVz := hI.vend hVx
 have hC0 := ok_cause_Causes b p hV.sz
 have hI1 := ok_cause_Issue b p time c hV.sz
 rw [issV, issR, if_pos hE0, hE0] at hI1
 have hI2 := ok_cause_Issue (issB b p time c) p 99 c hVx.sz
 rw [issV, issR, if_pos hE1, hE1, hI.twice hV hc] at hI2
 have hC1 := ok_cause_Causes (issB b p time c) p hVx.sz
 rw [hI.act hVx] at hC1
 have hEn := ok_cause_End (issB b p time c) p c hVx.sz
 rw [endV, endR, if_pos hE2, hE2, hEz] at hEn
 have hC2 := ok_cause_Causes ⟨b.ps, b.pa, pre ++ ⟨W.p, W.t, delC W.cs c, W.cm⟩ :: post⟩ p hVz.sz
 have hactz : actO ⟨b.ps, b.pa, pre ++ ⟨W.p, W.t, delC W.cs c, W.cm⟩ :: post⟩ p = some ⟨W.p, W.t, delC W.cs c, W.cm⟩ := by rw [actO, if_pos (vdB_iff.2 hVz)]; exact mid_find hI.lo hI.w
 rw [hactz] at hC2
 have hS := ok_ref36_Same (issB b p time c) (issB b p time c) hVx.sz
 rw [decide_eq_true rfl] at hS
 have hA := ok_ref36_Active (issB b p time c) p hVx.sz
 rw [actV, hI.act hVx] at hA
 have hcs := hI.cs
 have hWt := hI.t
 have hl0c := hV.cs_at p
 have hlen0 : ((actO b p).getD wnZ).cs.length ≤ 29 := cauB_len' hl0c
 have hlenW : W.cs.length ≤ 29 := cauB_len' (by rw [hcs]; exact addC_ok hl0c hc)
 have hS1 := ok_ref36_SameCauses W.cs ((actO b p).getD wnZ).cs (by omega)
 have hS2 := ok_ref36_SameCauses (delC W.cs c) ((actO b p).getD wnZ).cs (by have := List.length_filter_le (fun x => !decide (x = c)) W.cs; rw [delC]; omega)
 rw [hI.e] at hI1 hI2 hC1 hEn hS hA
 simp only [Option.getD_some, Option.isSome_some] at hC1 hC2 hA
 generalize hl0 : ((actO b p).getD wnZ).cs = l0 at *
 generalize (actO b p).isSome = was at *
 generalize pre ++ ⟨W.p, W.t, delC W.cs c, W.cm⟩ :: post = az at *
 generalize pre ++ W :: post = ax at *
 simp only [bov, csv, wnv] at hI1 hI2 hC0 hC1 hC2 hEn hS hA
 have pB : ∀ l, (AV.agg [.list 4 (wts b.ps), .list 1 (lls b.pa), .list 4 (wns l)]).pur = true := fun l => by simp [go_sem, wts_pur, lls_pur, wns_pur]
 try simp (disch := omega) only [go_sem, jA, jB, jC, jD, jE, jF, jG, jH, jI, jJ, ↓reduceIte, reduceCtorEq, jO, jM, jN, jK, jL, u1, csv]
 refine call_pc hC0 (by simp [pB, go_sem]) ?_
 try simp (disch := omega) only [go_sem, jA, jB, jC, jD, jE, jF, jG, jH, jI, jJ, ↓reduceIte, reduceCtorEq, jO, jM, jN, jK, jL, u1]
 refine call_pc hI1 (by simp [pB, go_sem]) ?_
 try simp (disch := omega) only [go_sem, jA, jB, jC, jD, jE, jF, jG, jH, jI, jJ, ↓reduceIte, reduceCtorEq, jO, jM, jN, jK, jL, u1]
 refine call_pc hI2 (by simp [pB, go_sem]) ?_
 try simp (disch := omega) only [go_sem, jA, jB, jC, jD, jE, jF, jG, jH, jI, jJ, ↓reduceIte, reduceCtorEq, jO, jM, jN, jK, jL, u1]
 refine call_pc hC1 (by simp [pB, go_sem]) ?_
 try simp (disch := omega) only [go_sem, jA, jB, jC, jD, jE, jF, jG, jH, jI, jJ, ↓reduceIte, reduceCtorEq, jO, jM, jN, jK, jL, u1]
 refine call_pc hEn (by simp [pB, go_sem]) ?_
 try simp (disch := omega) only [go_sem, jA, jB, jC, jD, jE, jF, jG, jH, jI, jJ, ↓reduceIte, reduceCtorEq, jO, jM, jN, jK, jL, u1]
 refine call_pc hC2 (by simp [pB, go_sem]) ?_
 try simp (disch := omega) only [go_sem, jA, jB, jC, jD, jE, jF, jG, jH, jI, jJ, ↓reduceIte, reduceCtorEq, jO, jM, jN, jK, jL, u1]
 refine call_pc hS (by simp [pB, go_sem]) ?_
 try simp (disch := omega) only [go_sem, jA, jB, jC, jD, jE, jF, jG, jH, jI, jJ, ↓reduceIte, reduceCtorEq, jO, jM, jN, jK, jL, css_length]
 refine awp_upG [23, 25, 108, 109, 110, 111, 112, 113, 114, 115, 116, 117, 118] (by kernel_rfl) l0.length (fun k e σ => e 108 = .int .i64 k ∧ e 23 = .bool ((l0.take k).any fun x => decide (x = c)) ∧ 6 ≤ σ.n ∧ σ.ob 2 = some ⟨c2, 2, 39, false, true, [.agg [.int .i64 c.k, .int .i64 c.s]]⟩ ∧ σ.ob 3 = some ⟨c2 + 1, 3, 31, false, true, [.agg [.list 4 (wts b.ps), .list 1 (lls b.pa), .list 4 (wns ax)]]⟩) ?_ ?_
 ·exact ⟨(by first | rfl | (simp (disch := omega) only [go_sem, jA, jB, jC, jD, jE, jF, jG, jH, jI, jJ, ↓reduceIte, reduceCtorEq, jP, jO, jM, jN]; try rfl)), (by first | rfl | (simp (disch := omega) only [go_sem, jA, jB, jC, jD, jE, jF, jG, jH, jI, jJ, ↓reduceIte, reduceCtorEq, jP, jO, jM, jN]; try rfl)), by simp, (by first | rfl | (simp (disch := omega) only [go_sem, jA, jB, jC, jD, jE, jF, jG, jH, jI, jJ, ↓reduceIte, reduceCtorEq, jP, jO, jM, jN]; try rfl)), (by first | rfl | (simp (disch := omega) only [go_sem, jA, jB, jC, jD, jE, jF, jG, jH, jI, jJ, ↓reduceIte, reduceCtorEq, jP, jO, jM, jN]; try rfl))⟩
 rintro k fe ob m c3 hk hm ⟨h108, h23, hm1, v2, v3⟩
 simp (maxSteps := 1000000) only [go_sem, jA, jB, jC, jD, jE, jF, jG, jH, jI, jJ, ↓reduceIte, reduceCtorEq, jP] at h108 h23 hm hm1 v2 v3
 try simp (disch := omega) only [go_sem, jA, jB, jC, jD, jE, jF, jG, jH, jI, jJ, ↓reduceIte, reduceCtorEq, jO, jM, jN, jK, jL, h108, css_length]
 refine cond_d (fun hlt2 => ?_) (fun hge => ?_)
 ·have hkl : k < l0.length := by omega
  have hk2 : l0[k]? = some l0[k] := List.getElem?_eq_getElem hkl
  have has := any_snoc (q := fun x => decide (x = c)) hk2
  generalize l0[k] = y at *
  have z2 : ¬ 2 = m := by omega
  have hdy : decide (y = c) = (decide (y.k = c.k) && decide (y.s = c.s)) := by rw [Bool.eq_iff_iff]; simp [cs_eq]
  rw [hdy] at has
  try simp (disch := omega) only [go_sem, jA, jB, jC, jD, jE, jF, jG, jH, jI, jJ, ↓reduceIte, reduceCtorEq, jO, jM, jN, jK, jL, h108, css_length, css_get, hk2, Option.map_some, csv, h23, z2, v2]
  refine ⟨by omega, by omega, ?_⟩
  cases hq : (l0.take k).any fun x => decide (x = c)
  ·rw [hq, Bool.false_or] at has
   try simp (disch := omega) only [go_sem, jA, jB, jC, jD, jE, jF, jG, jH, jI, jJ, ↓reduceIte, reduceCtorEq, jO, jM, jN, jK, jL, h108, v2, z2]
   exact up_nextG (m + 1) hkl (by omega) ⟨(by first | rfl | (simp (disch := omega) only [go_sem, jA, jB, jC, jD, jE, jF, jG, jH, jI, jJ, ↓reduceIte, reduceCtorEq, jP, jO, jM, jN]; try rfl)), by try simp (disch := omega) only [go_sem, jA, jB, jC, jD, jE, jF, jG, jH, jI, jJ, ↓reduceIte, reduceCtorEq, jO, jM, jN, jK, jL]; rw [has], by simp only [St.trunc]; omega, by rw [tr_ob (by omega), upd_ne _ _ _ _ (by omega), upd_ne _ _ _ _ (by omega)]; exact v2, by rw [tr_ob (by omega), upd_ne _ _ _ _ (by omega), upd_ne _ _ _ _ (by omega)]; exact v3⟩
  ·rw [hq, Bool.true_or] at has
   try simp (disch := omega) only [go_sem, jA, jB, jC, jD, jE, jF, jG, jH, jI, jJ, ↓reduceIte, reduceCtorEq, jO, jM, jN, jK, jL, h108]
   exact up_nextG (m + 1) hkl (by omega) ⟨(by first | rfl | (simp (disch := omega) only [go_sem, jA, jB, jC, jD, jE, jF, jG, jH, jI, jJ, ↓reduceIte, reduceCtorEq, jP, jO, jM, jN]; try rfl)), by try simp (disch := omega) only [go_sem, jA, jB, jC, jD, jE, jF, jG, jH, jI, jJ, ↓reduceIte, reduceCtorEq, jO, jM, jN, jK, jL]; rw [has], by simp only [St.trunc]; omega, by rw [tr_ob (by omega), upd_ne _ _ _ _ (by omega), upd_ne _ _ _ _ (by omega)]; exact v2, by rw [tr_ob (by omega), upd_ne _ _ _ _ (by omega), upd_ne _ _ _ _ (by omega)]; exact v3⟩
 obtain rfl : k = l0.length := by omega
 rw [List.take_length] at h23
 try simp (disch := omega) only [go_sem, jA, jB, jC, jD, jE, jF, jG, jH, jI, jJ, ↓reduceIte, reduceCtorEq, jO, jM, jN, jK, jL, v3, h23]
 refine call_pc hA (by simp [pB, go_sem]) ?_
 have hthere : (l0.any fun x => decide (x = c)) = hsB l0 c := by
  rw [hsB_contains hl0c, Bool.eq_iff_iff, List.contains_iff_mem, List.any_eq_true]
  refine ⟨?_, fun h => ⟨c, h, by simp⟩⟩
  rintro ⟨y, hy, e⟩
  obtain rfl : y = c := by simpa using e
  exact hy
 rw [hthere] at h23 ⊢
 have hfin : ∀ τ : St, hsB l0 c = true ∧ W.cs = l0 ∨ hsB l0 c = false ∧ W.cs.length = l0.length + 1 ∧ delC W.cs c = l0 := fun _ => by
  cases hb : hsB l0 c
  ·exact .inr ⟨rfl, by rw [hcs, addC_len hb], by rw [hcs, delC_addC hl0c hb]⟩
  ·exact .inl ⟨rfl, by rw [hcs, addC, if_pos hb]⟩
 have hfin := hfin ⟨ob, m, c3⟩
 have e1 : ∀ {x y : List Cs}, x = y → decide (x = y) = true := fun h => decide_eq_true h
 cases was
 ·have hWt2 := hWt rfl
  try simp (disch := omega) only [go_sem, jA, jB, jC, jD, jE, jF, jG, jH, jI, jJ, ↓reduceIte, reduceCtorEq, jO, jM, jN, jK, jL, hWt2]
  rcases hfin with ⟨hb, hq⟩ | ⟨hb, hq1, hq2⟩
  ·try simp (disch := omega) only [go_sem, jA, jB, jC, jD, jE, jF, jG, jH, jI, jJ, ↓reduceIte, reduceCtorEq, jO, jM, jN, jK, jL, hb]
   refine call_pc hS1 (by simp [css_pur, go_sem]) ?_
   rw [e1 hq]
   try simp (disch := omega) only [go_sem, jA, jB, jC, jD, jE, jF, jG, jH, jI, jJ, ↓reduceIte, reduceCtorEq, jO, jM, jN, jK, jL]
   exact Pub.pure rfl
  ·have hd : (W.cs.length : Int) = l0.length + 1 := by omega
   try simp (disch := omega) only [go_sem, jA, jB, jC, jD, jE, jF, jG, jH, jI, jJ, ↓reduceIte, reduceCtorEq, jO, jM, jN, jK, jL, hb, css_length, hd]
   refine call_pc hS2 (by simp [css_pur, go_sem]) ?_
   rw [e1 hq2]
   try simp (disch := omega) only [go_sem, jA, jB, jC, jD, jE, jF, jG, jH, jI, jJ, ↓reduceIte, reduceCtorEq, jO, jM, jN, jK, jL]
   exact Pub.pure rfl
 ·try simp (disch := omega) only [go_sem, jA, jB, jC, jD, jE, jF, jG, jH, jI, jJ, ↓reduceIte, reduceCtorEq, jO, jM, jN, jK, jL]
  rcases hfin with ⟨hb, hq⟩ | ⟨hb, hq1, hq2⟩
  ·try simp (disch := omega) only [go_sem, jA, jB, jC, jD, jE, jF, jG, jH, jI, jJ, ↓reduceIte, reduceCtorEq, jO, jM, jN, jK, jL, hb]
   refine call_pc hS1 (by simp [css_pur, go_sem]) ?_
   rw [e1 hq]
   try simp (disch := omega) only [go_sem, jA, jB, jC, jD, jE, jF, jG, jH, jI, jJ, ↓reduceIte, reduceCtorEq, jO, jM, jN, jK, jL]
   exact Pub.pure rfl
  ·have hd : (W.cs.length : Int) = l0.length + 1 := by omega
   try simp (disch := omega) only [go_sem, jA, jB, jC, jD, jE, jF, jG, jH, jI, jJ, ↓reduceIte, reduceCtorEq, jO, jM, jN, jK, jL, hb, css_length, hd]
   refine call_pc hS2 (by simp [css_pur, go_sem]) ?_
   rw [e1 hq2]
   try simp (disch := omega) only [go_sem, jA, jB, jC, jD, jE, jF, jG, jH, jI, jJ, ↓reduceIte, reduceCtorEq, jO, jM, jN, jK, jL]
   exact Pub.pure rfl
theorem law_law37_CauseTwice {c0 c1 c2 : List AV} (s0 : (Sh.slice 1 (.int .i64)).R c0) (s1 : (Sh.int .u8).R c1) (s2 : (Sh.int .u8).R c2) : PC prog n_law37_CauseTwice [(Sh.slice 1 (.int .i64)).mk1 c0, (Sh.int .u8).mk1 c1, (Sh.int .u8).mk1 c2] (.bool true) := by
 obtain ⟨l0, rfl, _, _⟩ := shInts s0
 obtain ⟨a1, rfl, w1⟩ := s1
 obtain ⟨a2, rfl, w2⟩ := s2
 exact ok_law37_CauseTwice l0 a1 a2 (wf_u8 w1) (wf_u8 w2)
end Go.Proofs.Try
