/- OWN WORK, put together by tools/asm.py, seat.py, mini.py. -/
import Derived.Test.YtmjcbljjnhmmnaaLibE
set_option linter.unusedSimpArgs false
set_option linter.unusedVariables false
set_option maxRecDepth 100000
set_option maxHeartbeats 1000000
namespace Go.Proofs.Try
open Go.Ab Go
open Int renaming reduceEq → jA, reduceLT → jB, reduceLE → jC, reduceToNat → jD
open Go.Ab renaming w_ite_ne → jM, w_ite_lt → jN, wrap_id → jO, w_app_nl → jP
open Nat renaming reduceLT → jE, reduceEqDiff → jF, reduceAdd → jG, reduceLeDiff → jH, reduceSub → jI, reduceMul → jJ, sub_zero → jK, sub_self → jL
theorem hc_cause_End_1 (τ : St) (id g : Nat) (ty : TypeId) (x c : Cs) (hob : τ.ob id = some ⟨g, 2, ty, false, true, [csv c]⟩) (hid : id < τ.n) :
  HC prog n_cause_End_1 [csv x, .ptr id g 2 0 0] τ (fun r τ' => r = .bool (decide (x = c)) ∧ AsC τ τ') := by
 obtain ⟨ob, n, cc⟩ := τ
 simp only at hob hid
 refine HC_of_body b_cause_End_1 (by simp) ?_
 have z1 : ¬ id = n := by omega
 simp only [csv] at hob
 simp only [c_cause_End_1, go_sem, jA, jB, jC, jD, jE, jF, jG, jH, jI, jJ, ↓reduceIte, reduceCtorEq, jP, csv]
 try simp (disch := omega) only [go_sem, jA, jB, jC, jD, jE, jF, jG, jH, jI, jJ, ↓reduceIte, reduceCtorEq, jO, jM, jN, jK, jL, hob, z1]
 refine ⟨?_, Nat.le_succ _, fun k hk => by simp only at hk ⊢; rw [upd_ne _ _ _ _ (by omega)]⟩
 rw [AV.bool.injEq, Bool.eq_iff_iff]; simp [cs_eq]
theorem hc_cause_Keep_1 (τ : St) (id g : Nat) (ty : TypeId) (x : Cs) (ks : List Cs) (hks : ks.length ≤ 9223372036854775807) (hob : τ.ob id = some ⟨g, 1, ty, false, true, [.list 2 (css ks)]⟩) (hid : id < τ.n) :
  HC prog n_cause_Keep_1 [csv x, .ptr id g 1 0 0] τ (fun r τ' => r = .bool (!ks.contains x) ∧ AsC τ τ') := by
 obtain ⟨ob, n, cc⟩ := τ
 simp only at hob hid
 refine HC_of_body b_cause_Keep_1 (by simp) ?_
 have z1 : ¬ id = n := by omega
 have hC := ok_slices_Contains__Cause ks x hks
 simp only [csv] at hC
 simp only [c_cause_Keep_1, go_sem, jA, jB, jC, jD, jE, jF, jG, jH, jI, jJ, ↓reduceIte, reduceCtorEq, jP, csv]
 try simp (disch := omega) only [go_sem, jA, jB, jC, jD, jE, jF, jG, jH, jI, jJ, ↓reduceIte, reduceCtorEq, jO, jM, jN, jK, jL, hob, z1]
 refine call_pc hC (by simp [go_sem, css_pur]) ?_
 try simp (disch := omega) only [go_sem, jA, jB, jC, jD, jE, jF, jG, jH, jI, jJ, ↓reduceIte, reduceCtorEq, jO, jM, jN, jK, jL]
 exact ⟨Nat.le_succ _, fun k hk => by simp only at hk ⊢; rw [upd_ne _ _ _ _ (by omega)]⟩
def delC (l : List Cs) (c : Cs) : List Cs := l.filter fun x => !decide (x = c)
theorem delC_at : ∀ {l : List Cs} {s c : Cs}, chB csR s l = true → hsB l c = true → l.take (hsI l c) ++ l.drop (hsI l c + 1) = delC l c
 | [], _, _, _, h => by simp [hsB, hsI] at h
 | a :: r, s, c, h, hb => by
  simp only [chB, Bool.and_eq_true] at h
  rw [hsB_cons] at hb
  have hI : hsI (a :: r) c = if csL a c then hsI r c + 1 else 0 := by
   unfold hsI; rw [List.findIdx_cons]; cases csL a c <;> rfl
  cases hq : csL a c
  ·rw [hq] at hb hI
   simp only [Bool.false_eq_true, if_false, decide_eq_true_eq] at hb hI
   subst hb
   rw [hI, delC, List.filter_cons]
   simp
   rw [eq_comm, List.filter_eq_self]
   intro x hx
   have := chC_lt h.2 x hx
   have : x ≠ a := fun e => by rw [e, csL_irr] at this; cases this
   simpa using this
  ·rw [hq] at hb hI
   simp only [if_true] at hb hI
   have hne : a ≠ c := fun e => by rw [e, csL_irr] at hq; cases hq
   rw [hI, List.take_succ_cons, List.drop_succ_cons, List.cons_append, delC_at h.2 hb, delC, delC, List.filter_cons]
   simp [hne]
def endL (l : List Wn) (p : Int) (c : Cs) : List Wn := putC l (plI l p) (delC (gA l (plI l p)).cs c)
def endE (b : Bo) (p : Int) (c : Cs) : Int := if vdB b = false then 50 else if p < 0 ∨ b.ps.length ≤ p then 52 else if plB b.ac p = false then 9 else if hsB (gA b.ac (plI b.ac p)).cs c then 0 else 9
def endB (b : Bo) (p : Int) (c : Cs) : Bo := ⟨b.ps, b.pa, endL b.ac p c⟩
def endR (b : Bo) (p : Int) (c : Cs) : Bo := if endE b p c = 0 then endB b p c else boZ
def endV (b : Bo) (p : Int) (c : Cs) : AV := .tuple [bov (endR b p c), .int .i64 (endE b p c)]
theorem end_bad {b : Bo} {p n : Int} {c : Cs} (h : endE b p c = n) (hn : n ≠ 0) {σ : St} : Pub σ (.tuple [.agg [.nil, .nil, .nil], .int .i64 n]) (endV b p c) := by
 rw [endV, h, endR, if_neg (by rw [h]; exact hn)]
 exact Pub.tu (.cons pub_boZ (.cons (Pub.e rfl) .nil))
theorem rdyE_iff {b : Bo} {p : Int} : rdyE b p = 0 ↔ vdB b = true ∧ ¬ (p < 0 ∨ (b.ps.length : Int) ≤ p) := by
 rw [rdyE]
 cases hv : vdB b
 ·simp
 ·rw [if_neg (by simp)]
  split
  ·rename_i h; simp [h]
  ·rename_i h; simp [h]
theorem wnJ_pub {σ τ : St} {l : List Wn} {j : Nat} {X E : AV} (hX : SlR 4 tyA σ (wnJ l j E l.length) X) (hE : j < l.length → SlR 2 tyC σ (css (gA l j).cs) E) (ho : ∀ i, i < σ.n → (¬ Oth X i ∨ ¬ Oth E i) → τ.ob i = σ.ob i) : Pub τ X (.list 4 (wns l)) := by
 refine pub_slx hX (fun i hi hh => ho i hi (.inl hh)) (by rw [wnJ, List.length_set, List.take_length]) (fun i x y hx hy => ?_) (wns_ok _)
 rw [wnJ, List.take_length, List.getElem?_set] at hx
 split at hx
 ·rename_i hij
  split at hx
  ·rename_i hlt
   subst hij
   rw [wns_length] at hlt
   rw [wns_get] at hy
   obtain ⟨w, hw, rfl⟩ := Option.map_eq_some_iff.1 hy
   have hEE := hE hlt
   have hgw : gA l j = w := by rw [gA, List.getD_eq_getElem?_getD, hw]; rfl
   rw [hgw] at hx hEE
   obtain rfl := Option.some.inj hx
   exact Pub.ag (.cons (Pub.e rfl) (.cons (Pub.e rfl) (.cons (hEE.pub (fun i hi hh => ho i hi (.inr hh)) (css_pur _) (css_ok _)) (.cons (Pub.e rfl) .nil))))
  ·cases hx
 ·rw [hx] at hy
  obtain rfl := Option.some.inj hy
  exact Pub.e (wns_pur _ _ (List.mem_of_getElem? hx))
theorem ok_cause_End (b : Bo) (p : Int) (c : Cs) (h : BoL b) : PC prog n_cause_End [bov b, .int .i64 p, csv c] (endV b p c) := by
 refine PC_of_body b_cause_End (by simp) ?_
 simp only [c_cause_End, bov, csv]
 try simp (disch := omega) only [go_sem, jA, jB, jC, jD, jE, jF, jG, jH, jI, jJ, ↓reduceIte, reduceCtorEq, jO, jM, jN, jK, jL]
 have hC := ok_cause_ready b p h
 simp only [bov] at hC
 refine call_pc hC (by simp [go_sem, wts_pur, lls_pur, wns_pur]) ?_
 try simp (disch := omega) only [go_sem, jA, jB, jC, jD, jE, jF, jG, jH, jI, jJ, ↓reduceIte, reduceCtorEq, jO, jM, jN, jK, jL]
 refine cond_n (fun g0 => ?_) (fun g0 => ?_)
 ·try simp (disch := omega) only [go_sem, jA, jB, jC, jD, jE, jF, jG, jH, jI, jJ, ↓reduceIte, reduceCtorEq, jO, jM, jN, jK, jL, g0]
  refine end_bad ?_ g0
  rw [rdyE] at g0 ⊢
  rw [endE]
  split
  ·rfl
  ·rename_i h1
   rw [if_neg h1] at g0
   split
   ·rfl
   ·rename_i h2; rw [if_neg h2] at g0; exact absurd rfl g0
 obtain ⟨hv, gp⟩ := rdyE_iff.1 g0
 have hV := vdB_iff.1 hv
 try simp (disch := omega) only [go_sem, jA, jB, jC, jD, jE, jF, jG, jH, jI, jJ, ↓reduceIte, reduceCtorEq, jO, jM, jN, jK, jL, g0]
 have e0 : ∀ n, (if plB b.ac p = false then 9 else if hsB (gA b.ac (plI b.ac p)).cs c then 0 else 9) = n → endE b p c = n := fun n hn => by rw [endE, if_neg (by simp [hv]), if_neg gp, hn]
 have ha8 := hV.a1
 have hpi := plI_le b.ac p
 have hcp := fun σ => hcK_cause_copied σ b (plI b.ac p) hV
 simp only [bov] at hcp
 refine (hcp _).mono ?_
 rintro r ⟨ob1, n1, c1⟩ ⟨X, E, rfl, hX, hE0, hE1, hn1, hXn, hEn, ho1⟩
 have u0 := ho1 0 (by simp only; omega)
 have u1 := ho1 1 (by simp only; omega)
 have u2 := ho1 2 (by simp only; omega)
 try simp (disch := omega) only [go_sem, jA, jB, jC, jD, jE, jF, jG, jH, jI, jJ, ↓reduceIte, reduceCtorEq, jO, jM, jN, jK, jL] at u0
 try simp (disch := omega) only [go_sem, jA, jB, jC, jD, jE, jF, jG, jH, jI, jJ, ↓reduceIte, reduceCtorEq, jO, jM, jN, jK, jL] at u1
 try simp (disch := omega) only [go_sem, jA, jB, jC, jD, jE, jF, jG, jH, jI, jJ, ↓reduceIte, reduceCtorEq, jO, jM, jN, jK, jL] at u2
 try simp (disch := omega) only [go_sem, jA, jB, jC, jD, jE, jF, jG, jH, jI, jJ, ↓reduceIte, reduceCtorEq, jO, jM, jN, jK, jL] at hn1
 try simp (disch := omega) only [go_sem, jA, jB, jC, jD, jE, jF, jG, jH, jI, jJ, ↓reduceIte, reduceCtorEq, jO, jM, jN, jK, jL] at hXn
 try simp (disch := omega) only [go_sem, jA, jB, jC, jD, jE, jF, jG, jH, jI, jJ, ↓reduceIte, reduceCtorEq, jO, jM, jN, jK, jL] at hEn
 obtain ⟨ob2, hob2⟩ : ∃ ob2, ob2 = upd (upd ob1 n1 (some ⟨c1, 3, 31, false, true, [.agg [.nil, .nil, .nil]]⟩)) n1 (some ⟨c1, 3, 31, false, true, [.agg [.list 4 (wts b.ps), .list 1 (lls b.pa), X]]⟩) := ⟨_, rfl⟩
 have hag : ∀ i, i < n1 → ob2 i = ob1 i := fun i hi => by rw [hob2, upd_ne _ _ _ _ (by omega), upd_ne _ _ _ _ (by omega)]
 have w3 : ob2 n1 = some ⟨c1, 3, 31, false, true, [.agg [.list 4 (wts b.ps), .list 1 (lls b.pa), X]]⟩ := by rw [hob2, upd_same]
 try simp (disch := omega) only [go_sem, jA, jB, jC, jD, jE, jF, jG, jH, jI, jJ, ↓reduceIte, reduceCtorEq, jO, jM, jN, jK, jL, hX.flat, hX.cells, hX.one]
 rw [← hob2]
 have hP := ok_cause_at b p h
 simp only [bov] at hP
 refine call_lent hP (.cons (Pub.ag (.cons (Pub.e (by simp [go_sem, wts_pur])) (.cons (Pub.e (by simp [go_sem, lls_pur])) (.cons (wnJ_pub hX hE1 fun i hi _ => hag i hi) .nil)))) (.cons (.pure rfl) .nil)) rfl ?_
 try simp (disch := omega) only [go_sem, jA, jB, jC, jD, jE, jF, jG, jH, jI, jJ, ↓reduceIte, reduceCtorEq, jO, jM, jN, jK, jL]
 have w1 := (hag 1 (by omega)).trans u1
 have w2 := (hag 2 (by omega)).trans u2
 cases hb : plB b.ac p
 ·try simp (disch := omega) only [go_sem, jA, jB, jC, jD, jE, jF, jG, jH, jI, jJ, ↓reduceIte, reduceCtorEq, jO, jM, jN, jK, jL, w2]
  exact end_bad (e0 9 (by rw [if_pos hb])) (by omega)
 obtain ⟨h1, h2, h3⟩ := plB_get hb
 have hcl := wnB_bd (hV.wn _ (List.mem_of_getElem? h2))
 have hcl2 := wnB_cs (hV.wn _ (List.mem_of_getElem? h2))
 rw [wnJ_split h1] at hX
 rcases hX with ⟨_, h0⟩ | ⟨id, g, rfl, hid, hoX⟩
 ·simp at h0
 simp only at hid hoX
 obtain ⟨hid3, hEid⟩ := hXn id fun h => h _ _ _ _ rfl
 have hoX2 := (hag id hid).trans hoX
 have hpre : (b.ac.take (plI b.ac p)).length = plI b.ac p := by rw [List.length_take]; omega
 have hg := fun {x} => mid_get (post := b.ac.drop (plI b.ac p + 1)) (x := x) hpre
 have hs := fun {x y} => mid_set (post := b.ac.drop (plI b.ac p + 1)) (x := x) (y := y) hpre
 have hg2 : ∀ (x : Wn) (A : AV), (wnX x A).cells.getD 2 .junk = A := fun _ _ => rfl
 have hil : plI b.ac p < (wns (b.ac.take (plI b.ac p)) ++ wnX (gA b.ac (plI b.ac p)) E :: wns (b.ac.drop (plI b.ac p + 1))).length := by
  rw [List.length_append, List.length_cons, wns_length, wns_length, hpre]; omega
 have hF2 : SlR 2 tyC ⟨ob2, n1 + 1, c1 + 1⟩ (css (gA b.ac (plI b.ac p)).cs) E := (hE1 h1).move (by simp only; omega) fun i hi _ => hag i hi
 have hCt := ok_slices_Contains__Cause (gA b.ac (plI b.ac p)).cs c (by omega)
 simp only [csv] at hCt
 try simp (disch := omega) only [go_sem, jA, jB, jC, jD, jE, jF, jG, jH, jI, jJ, ↓reduceIte, reduceCtorEq, jO, jM, jN, jK, jL, w1, w3, hoX2, hg, hg2]
 refine ⟨by omega, by omega, call_lent hCt (.cons (hF2.pub (fun _ _ _ => rfl) (css_pur _) (css_ok _)) (.cons (.pure rfl) .nil)) rfl ?_⟩
 try simp (disch := omega) only [go_sem, jA, jB, jC, jD, jE, jF, jG, jH, jI, jJ, ↓reduceIte, reduceCtorEq, jO, jM, jN, jK, jL]
 rw [← hsB_contains hcl.2.2.2.2.1]
 cases hbb : hsB (gA b.ac (plI b.ac p)).cs c <;> try simp (disch := omega) only [go_sem, jA, jB, jC, jD, jE, jF, jG, jH, jI, jJ, ↓reduceIte, reduceCtorEq, jO, jM, jN, jK, jL, w2]
 ·exact end_bad (e0 9 (by rw [if_neg (by simp [hb]), if_neg (by simp [hbb])])) (by omega)
 have hE : endE b p c = 0 := e0 0 (by rw [if_neg (by simp [hb]), if_pos hbb])
 have z1 : ¬ 1 = id := by omega
 try simp (disch := omega) only [go_sem, jA, jB, jC, jD, jE, jF, jG, jH, jI, jJ, ↓reduceIte, reduceCtorEq, jO, jM, jN, jK, jL, w3, hoX2, hg, hg2]
 refine ⟨by omega, by omega, ?_⟩
 refine (hc_slices_DeleteFunc__Cause _ E (gA b.ac (plI b.ac p)).cs n_cause_End_1 [.ptr 1 1 2 0 0] (fun x => decide (x = c)) hF2 (by omega) (fun τ x hn ho => hc_cause_End_1 τ 1 1 39 x c ?_ ?_)).mono ?_
 ·simp only at ho
  exact (ho 1 (by omega) (Oth.em fun hh => by have := hEn 1 hh; omega)).trans w1
 ·simp only at hn; omega
 rintro G ⟨ob5, m5, c5⟩ ⟨hG, hk1, hk2, hk3⟩
 have q1 : n1 + 1 ≤ m5 := hk1
 have q2 : ∀ i, i < n1 + 1 → Oth E i → ob5 i = ob2 i := hk2
 have q3 : ∀ i, i < n1 + 1 → Oth E i → Oth G i := hk3
 have oE : ∀ i, i < n1 + 1 → (i < 3 ∨ i = n1 ∨ i = id) → Oth E i := fun i hi h => by
  rcases h with h | rfl | rfl
  ·exact Oth.em fun hh => by have := hEn i hh; omega
  ·exact (hE1 h1).oth (Nat.le_refl _)
  ·exact hEid
 have p1 := (q2 id (by omega) (oE id (by omega) (.inr (.inr rfl)))).trans hoX2
 have p5 := (q2 2 (by omega) (oE 2 (by omega) (.inl (by omega)))).trans w2
 have p4 := (q2 n1 (by omega) (oE n1 (by omega) (.inr (.inl rfl)))).trans w3
 have hs4 : setc 2 G (wnX (gA b.ac (plI b.ac p)) E) = wnX (gA b.ac (plI b.ac p)) G := by simp only [wnX, setc, hG.cells]; rfl
 have z2 : ¬ 2 = id := by omega
 have z3 : ¬ n1 = id := by omega
 try simp (disch := omega) only [go_sem, jA, jB, jC, jD, jE, jF, jG, jH, jI, jJ, ↓reduceIte, reduceCtorEq, jO, jM, jN, jK, jL, p1, p5, p4, w3, hoX2, z2, z3, hg, hs, hs4, hG.flat, hG.cells, hG.one]
 refine ⟨by omega, by omega, ?_⟩
 try simp (disch := omega) only [go_sem, jA, jB, jC, jD, jE, jF, jG, jH, jI, jJ, ↓reduceIte, reduceCtorEq, jO, jM, jN, jK, jL, p1, p5, p4, w3, hoX2, z2, z3, hg, hs, hs4, hG.flat, hG.cells, hG.one]
 rw [endV, hE, endR, if_pos hE]
 show Pub _ _ (.tuple [.agg [.list 4 (wts b.ps), .list 1 (lls b.pa), .list 4 (wns (endL b.ac p c))], .int .i64 0])
 refine Pub.tu (.cons (Pub.ag (.cons (Pub.e (by simp [go_sem, wts_pur])) (.cons (Pub.e (by simp [go_sem, lls_pur])) (.cons ?_ .nil)))) (.cons (Pub.e rfl) .nil))
 rw [endL, putC]
 refine pub_mid (ty := tyA) (ro := false) (ap := true) (F := G) (w := ⟨(gA b.ac (plI b.ac p)).p, (gA b.ac (plI b.ac p)).t, delC (gA b.ac (plI b.ac p)).cs c, (gA b.ac (plI b.ac p)).cm⟩) ?_ ?_ ?_
 ·simp only
  rw [upd_ne _ _ _ _ (fun e => z2 e.symm), upd_same]; rfl
 ·simp [wns_length]; omega
 ·refine hG.pub (css_pur _) (css_ok _) fun i hi hh o ho => ⟨o.ro, ?_⟩
  have n2 : i ≠ 2 := fun e => by subst e; exact hh (q3 _ (by omega) (oE _ (by omega) (.inl (by omega))))
  have n3 : i ≠ id := fun e => by subst e; exact hh (q3 _ (by omega) (oE _ (by omega) (.inr (.inr rfl))))
  simp only
  rw [upd_ne _ _ _ _ n2, upd_ne _ _ _ _ n3]; exact ho
theorem ok_cause_Keep (b : Bo) (p : Int) (ks : List Cs) (h : BoL b) (hks : ks.length ≤ 9223372036854775807) : PC prog n_cause_Keep [bov b, .int .i64 p, .list 2 (css ks)] (keepV b p ks) := by
 refine PC_of_body b_cause_Keep (by simp) ?_
 simp only [c_cause_Keep, bov]
 try simp (disch := omega) only [go_sem, jA, jB, jC, jD, jE, jF, jG, jH, jI, jJ, ↓reduceIte, reduceCtorEq, jO, jM, jN, jK, jL]
 have hC := ok_cause_ready b p h
 simp only [bov] at hC
 refine call_pc hC (by simp [go_sem, wts_pur, lls_pur, wns_pur]) ?_
 try simp (disch := omega) only [go_sem, jA, jB, jC, jD, jE, jF, jG, jH, jI, jJ, ↓reduceIte, reduceCtorEq, jO, jM, jN, jK, jL]
 refine cond_n (fun g0 => ?_) (fun g0 => ?_)
 ·try simp (disch := omega) only [go_sem, jA, jB, jC, jD, jE, jF, jG, jH, jI, jJ, ↓reduceIte, reduceCtorEq, jO, jM, jN, jK, jL, g0]
  exact keep_bad rfl g0
 obtain ⟨hv, gp⟩ := rdyE_iff.1 g0
 have hV := vdB_iff.1 hv
 try simp (disch := omega) only [go_sem, jA, jB, jC, jD, jE, jF, jG, jH, jI, jJ, ↓reduceIte, reduceCtorEq, jO, jM, jN, jK, jL, g0]
 have hE : keepE b p = 0 := by rw [keepE, if_neg (by simp [hv]), if_neg gp]
 have ha8 := hV.a1
 have hpi := plI_le b.ac p
 have hcp := fun σ => hcK_cause_copied σ b (plI b.ac p) hV
 simp only [bov] at hcp
 refine (hcp _).mono ?_
 rintro r ⟨ob1, n1, c1⟩ ⟨X, E, rfl, hX, hE0, hE1, hn1, hXn, hEn, ho1⟩
 have u0 := ho1 0 (by simp only; omega)
 have u1 := ho1 1 (by simp only; omega)
 have u2 := ho1 2 (by simp only; omega)
 try simp (disch := omega) only [go_sem, jA, jB, jC, jD, jE, jF, jG, jH, jI, jJ, ↓reduceIte, reduceCtorEq, jO, jM, jN, jK, jL] at u0
 try simp (disch := omega) only [go_sem, jA, jB, jC, jD, jE, jF, jG, jH, jI, jJ, ↓reduceIte, reduceCtorEq, jO, jM, jN, jK, jL] at u1
 try simp (disch := omega) only [go_sem, jA, jB, jC, jD, jE, jF, jG, jH, jI, jJ, ↓reduceIte, reduceCtorEq, jO, jM, jN, jK, jL] at u2
 try simp (disch := omega) only [go_sem, jA, jB, jC, jD, jE, jF, jG, jH, jI, jJ, ↓reduceIte, reduceCtorEq, jO, jM, jN, jK, jL] at hn1
 try simp (disch := omega) only [go_sem, jA, jB, jC, jD, jE, jF, jG, jH, jI, jJ, ↓reduceIte, reduceCtorEq, jO, jM, jN, jK, jL] at hXn
 try simp (disch := omega) only [go_sem, jA, jB, jC, jD, jE, jF, jG, jH, jI, jJ, ↓reduceIte, reduceCtorEq, jO, jM, jN, jK, jL] at hEn
 obtain ⟨ob2, hob2⟩ : ∃ ob2, ob2 = upd (upd ob1 n1 (some ⟨c1, 3, 31, false, true, [.agg [.nil, .nil, .nil]]⟩)) n1 (some ⟨c1, 3, 31, false, true, [.agg [.list 4 (wts b.ps), .list 1 (lls b.pa), X]]⟩) := ⟨_, rfl⟩
 have hag : ∀ i, i < n1 → ob2 i = ob1 i := fun i hi => by rw [hob2, upd_ne _ _ _ _ (by omega), upd_ne _ _ _ _ (by omega)]
 have w3 : ob2 n1 = some ⟨c1, 3, 31, false, true, [.agg [.list 4 (wts b.ps), .list 1 (lls b.pa), X]]⟩ := by rw [hob2, upd_same]
 try simp (disch := omega) only [go_sem, jA, jB, jC, jD, jE, jF, jG, jH, jI, jJ, ↓reduceIte, reduceCtorEq, jO, jM, jN, jK, jL, hX.flat, hX.cells, hX.one]
 rw [← hob2]
 have hP := ok_cause_at b p h
 simp only [bov] at hP
 refine call_lent hP (.cons (Pub.ag (.cons (Pub.e (by simp [go_sem, wts_pur])) (.cons (Pub.e (by simp [go_sem, lls_pur])) (.cons (wnJ_pub hX hE1 fun i hi _ => hag i hi) .nil)))) (.cons (.pure rfl) .nil)) rfl ?_
 try simp (disch := omega) only [go_sem, jA, jB, jC, jD, jE, jF, jG, jH, jI, jJ, ↓reduceIte, reduceCtorEq, jO, jM, jN, jK, jL]
 have w1 := (hag 1 (by omega)).trans u1
 have w2 := (hag 2 (by omega)).trans u2
 have hX0 := hX
 cases hb : plB b.ac p
 ·try simp (disch := omega) only [go_sem, jA, jB, jC, jD, jE, jF, jG, jH, jI, jJ, ↓reduceIte, reduceCtorEq, jO, jM, jN, jK, jL, w2, w3, hX0.one]
  rw [keepV, hE, keepR, if_pos hE]
  have hkl : keepL b.ac p ks = b.ac := by rw [keepL, if_neg (by simp [hb])]
  show Pub _ _ (.tuple [.agg [.list 4 (wts b.ps), .list 1 (lls b.pa), .list 4 (wns (keepL b.ac p ks))], .int .i64 0])
  rw [hkl]
  have z2 : ¬ n1 = 2 := by omega
  refine Pub.tu (.cons (Pub.ag (.cons (Pub.e (by simp [go_sem, wts_pur])) (.cons (Pub.e (by simp [go_sem, lls_pur])) (.cons ?_ .nil)))) (.cons (Pub.e rfl) .nil))
  refine wnJ_pub hX0 hE1 fun i hi hh => ?_
  have : 3 ≤ i := by
   rcases hh with hh | hh
   ·exact (hXn i hh).1
   ·exact hEn i hh
  simp only at hi ⊢
  rw [upd_ne _ _ _ _ (by omega)]; exact hag i hi
 obtain ⟨h1, h2, h3⟩ := plB_get hb
 have hcl := wnB_bd (hV.wn _ (List.mem_of_getElem? h2))
 have hcl2 := wnB_cs (hV.wn _ (List.mem_of_getElem? h2))
 rw [wnJ_split h1] at hX
 rcases hX with ⟨_, h0⟩ | ⟨id, g, rfl, hid, hoX⟩
 ·simp at h0
 simp only at hid hoX
 obtain ⟨hid3, hEid⟩ := hXn id fun h => h _ _ _ _ rfl
 have hoX2 := (hag id hid).trans hoX
 have hpre : (b.ac.take (plI b.ac p)).length = plI b.ac p := by rw [List.length_take]; omega
 have hg := fun {x} => mid_get (post := b.ac.drop (plI b.ac p + 1)) (x := x) hpre
 have hs := fun {x y} => mid_set (post := b.ac.drop (plI b.ac p + 1)) (x := x) (y := y) hpre
 have hg2 : ∀ (x : Wn) (A : AV), (wnX x A).cells.getD 2 .junk = A := fun _ _ => rfl
 have hil : plI b.ac p < (wns (b.ac.take (plI b.ac p)) ++ wnX (gA b.ac (plI b.ac p)) E :: wns (b.ac.drop (plI b.ac p + 1))).length := by
  rw [List.length_append, List.length_cons, wns_length, wns_length, hpre]; omega
 have hF2 : SlR 2 tyC ⟨ob2, n1 + 1, c1 + 1⟩ (css (gA b.ac (plI b.ac p)).cs) E := (hE1 h1).move (by simp only; omega) fun i hi _ => hag i hi
 have z1 : ¬ 1 = id := by omega
 try simp (disch := omega) only [go_sem, jA, jB, jC, jD, jE, jF, jG, jH, jI, jJ, ↓reduceIte, reduceCtorEq, jO, jM, jN, jK, jL, w3, hoX2, hg, hg2]
 refine ⟨by omega, by omega, ?_⟩
 refine (hc_slices_DeleteFunc__Cause _ E (gA b.ac (plI b.ac p)).cs n_cause_Keep_1 [.ptr 1 1 1 0 0] (fun x => !ks.contains x) hF2 (by omega) (fun τ x hn ho => hc_cause_Keep_1 τ 1 1 50 x ks hks ?_ ?_)).mono ?_
 ·simp only at ho
  exact (ho 1 (by omega) (Oth.em fun hh => by have := hEn 1 hh; omega)).trans w1
 ·simp only at hn; omega
 rintro G ⟨ob5, m5, c5⟩ ⟨hG, hk1, hk2, hk3⟩
 have q1 : n1 + 1 ≤ m5 := hk1
 have q2 : ∀ i, i < n1 + 1 → Oth E i → ob5 i = ob2 i := hk2
 have q3 : ∀ i, i < n1 + 1 → Oth E i → Oth G i := hk3
 have oE : ∀ i, i < n1 + 1 → (i < 3 ∨ i = n1 ∨ i = id) → Oth E i := fun i hi h => by
  rcases h with h | rfl | rfl
  ·exact Oth.em fun hh => by have := hEn i hh; omega
  ·exact (hE1 h1).oth (Nat.le_refl _)
  ·exact hEid
 have p1 := (q2 id (by omega) (oE id (by omega) (.inr (.inr rfl)))).trans hoX2
 have p5 := (q2 2 (by omega) (oE 2 (by omega) (.inl (by omega)))).trans w2
 have p4 := (q2 n1 (by omega) (oE n1 (by omega) (.inr (.inl rfl)))).trans w3
 have hs4 : setc 2 G (wnX (gA b.ac (plI b.ac p)) E) = wnX (gA b.ac (plI b.ac p)) G := by simp only [wnX, setc, hG.cells]; rfl
 have z2 : ¬ 2 = id := by omega
 have z3 : ¬ n1 = id := by omega
 try simp (disch := omega) only [go_sem, jA, jB, jC, jD, jE, jF, jG, jH, jI, jJ, ↓reduceIte, reduceCtorEq, jO, jM, jN, jK, jL, p1, p5, p4, w3, hoX2, z2, z3, hg, hs, hs4, hG.flat, hG.cells, hG.one]
 refine ⟨by omega, by omega, ?_⟩
 try simp (disch := omega) only [go_sem, jA, jB, jC, jD, jE, jF, jG, jH, jI, jJ, ↓reduceIte, reduceCtorEq, jO, jM, jN, jK, jL, p1, p5, p4, w3, hoX2, z2, z3, hg, hs, hs4, hG.flat, hG.cells, hG.one]
 rw [keepV, hE, keepR, if_pos hE]
 show Pub _ _ (.tuple [.agg [.list 4 (wts b.ps), .list 1 (lls b.pa), .list 4 (wns (keepL b.ac p ks))], .int .i64 0])
 have hfl : (gA b.ac (plI b.ac p)).cs.filter (fun x => !!ks.contains x) = (gA b.ac (plI b.ac p)).cs.filter (inK ks) := by
  congr 1; funext x; rw [Bool.not_not, inK, Bool.eq_iff_iff, List.contains_iff_mem, List.any_eq_true]
  refine ⟨fun h => ⟨x, h, by simp⟩, ?_⟩
  rintro ⟨y, hy, e⟩
  obtain rfl : y = x := by simpa using e
  exact hy
 rw [hfl] at hG
 refine Pub.tu (.cons (Pub.ag (.cons (Pub.e (by simp [go_sem, wts_pur])) (.cons (Pub.e (by simp [go_sem, lls_pur])) (.cons ?_ .nil)))) (.cons (Pub.e rfl) .nil))
 rw [keepL, if_pos hb, putC]
 refine pub_mid (ty := tyA) (ro := false) (ap := true) (F := G) (w := ⟨(gA b.ac (plI b.ac p)).p, (gA b.ac (plI b.ac p)).t, (gA b.ac (plI b.ac p)).cs.filter (inK ks), (gA b.ac (plI b.ac p)).cm⟩) ?_ ?_ ?_
 ·simp only
  rw [upd_ne _ _ _ _ (fun e => z2 e.symm), upd_same]; rfl
 ·simp [wns_length]; omega
 ·refine hG.pub (css_pur _) (css_ok _) fun i hi hh o ho => ⟨o.ro, ?_⟩
  have n2 : i ≠ 2 := fun e => by subst e; exact hh (q3 _ (by omega) (oE _ (by omega) (.inl (by omega))))
  have n3 : i ≠ id := fun e => by subst e; exact hh (q3 _ (by omega) (oE _ (by omega) (.inr (.inr rfl))))
  simp only
  rw [upd_ne _ _ _ _ n2, upd_ne _ _ _ _ n3]; exact ho
theorem ok_cause_Causes (b : Bo) (p : Int) (h : BoL b) : PC prog n_cause_Causes [bov b, .int .i64 p] (.tuple [.list 2 (css ((actO b p).getD wnZ).cs), .bool (actO b p).isSome]) := by
 refine PC_of_body b_cause_Causes (by simp) ?_
 simp only [c_cause_Causes, go_sem, jA, jB, jC, jD, jE, jF, jG, jH, jI, jJ, ↓reduceIte, reduceCtorEq, jP, bov]
 have hA := ok_warning_Active b p h
 simp only [bov, actV] at hA
 have hn : actO b p = none → ((actO b p).getD wnZ).cs = [] := fun h => by rw [h]; rfl
 cases ha : actO b p with
 | none =>
  rw [ha] at hA
  refine call_pc hA (by simp [go_sem, wts_pur, lls_pur, wns_pur]) ?_
  try simp (disch := omega) only [go_sem, jA, jB, jC, jD, jE, jF, jG, jH, jI, jJ, ↓reduceIte, reduceCtorEq, jO, jM, jN, jK, jL, wnv, Option.getD_none, Option.isSome_none, Bool.not_false]
  show Pub _ _ (.tuple [.list 2 [], .bool false])
  exact Pub.tu (.cons (.nl 2) (.cons (Pub.e rfl) .nil))
 | some w =>
  rw [ha] at hA
  refine call_pc hA (by simp [go_sem, wts_pur, lls_pur, wns_pur]) ?_
  try simp (disch := omega) only [go_sem, jA, jB, jC, jD, jE, jF, jG, jH, jI, jJ, ↓reduceIte, reduceCtorEq, jO, jM, jN, jK, jL, wnv, Option.getD_some, Option.isSome_some, Bool.not_true]
  show Pub _ _ (.tuple [.list 2 (css w.cs), .bool true])
  exact Pub.tu (.cons (Pub.e (by simp [go_sem, css_pur])) (.cons (Pub.e rfl) .nil))
theorem ok_cause_Tick (b : Bo) (q : List Bool) (hd : Int) (h : BoL b) (hq : q.length ≤ 9223372036854775807) : PC prog n_cause_Tick [bov b, .list 1 (bls q), .int .i64 hd] (tickV b q hd) := by
 refine PC_of_body b_cause_Tick (by simp) ?_
 simp only [c_cause_Tick, bov]
 try simp (disch := omega) only [go_sem, jA, jB, jC, jD, jE, jF, jG, jH, jI, jJ, ↓reduceIte, reduceCtorEq, jO, jM, jN, jK, jL]
 have hC := ok_warning_Check b h
 simp only [bov] at hC
 refine call_pc hC (by simp [go_sem, wts_pur, lls_pur, wns_pur]) ?_
 cases hv : vdB b <;> try simp (disch := omega) only [go_sem, jA, jB, jC, jD, jE, jF, jG, jH, jI, jJ, ↓reduceIte, reduceCtorEq, jO, jM, jN, jK, jL, chkE, hv, wts_length, bls_length]
 ·exact tick_bad (by rw [tickE, if_pos hv]) (by omega)
 have hV := vdB_iff.1 hv
 have hp8 := hV.p
 refine cond_n (fun g1 => ?_) (fun g1 => ?_) <;> try simp (disch := omega) only [go_sem, jA, jB, jC, jD, jE, jF, jG, jH, jI, jJ, ↓reduceIte, reduceCtorEq, jO, jM, jN, jK, jL, wts_length, bls_length]
 ·exact tick_bad (by rw [tickE, if_neg (by simp [hv]), if_pos (by omega)]) (by omega)
 refine gd_fd rfl (fun g2 => ?_) (fun g2 => ?_) <;> try simp (disch := omega) only [go_sem, jA, jB, jC, jD, jE, jF, jG, jH, jI, jJ, ↓reduceIte, reduceCtorEq, jO, jM, jN, jK, jL, wts_length]
 ·exact tick_bad (by rw [tickE, if_neg (by simp [hv]), if_neg (by omega), if_pos (.inl g2)]) (by omega)
 refine cond_d (fun g3 => ?_) (fun g3 => ?_) <;> try simp (disch := omega) only [go_sem, jA, jB, jC, jD, jE, jF, jG, jH, jI, jJ, ↓reduceIte, reduceCtorEq, jO, jM, jN, jK, jL, wts_length]
 ·exact tick_bad (by rw [tickE, if_neg (by simp [hv]), if_neg (by omega), if_pos (.inr g3)]) (by omega)
 have hE : tickE b q hd = 0 := by rw [tickE, if_neg (by simp [hv]), if_neg (by omega), if_neg (by omega)]
 have hcp := ok_cause_copied b hV
 simp only [bov] at hcp
 refine call_pc hcp (by simp [go_sem, wts_pur, lls_pur, wns_pur]) ?_
 have ha8 := hV.a1
 try simp (disch := omega) only [go_sem, jA, jB, jC, jD, jE, jF, jG, jH, jI, jJ, ↓reduceIte, reduceCtorEq, jO, jM, jN, jK, jL, wns_length]
 refine awp_upG [10, 11, 13, 40, 41, 42, 43, 44, 45, 46, 47, 48, 49, 50, 51, 52, 53, 54, 55, 56, 57, 58, 59, 60, 61, 62, 63, 64, 65, 66, 67, 68, 69, 70, 71, 72, 73, 74, 75, 76, 77] (by kernel_rfl) b.ac.length (fun k e σ => e 40 = .int .i64 k ∧ 3 ≤ σ.n ∧ σ.ob 1 = some ⟨1, 3, 31, false, true, [.agg [.nil, .nil, .nil]]⟩ ∧ σ.ob 2 = some ⟨2, 3, 31, false, true, [.agg [.list 4 (wts b.ps), .list 1 (lls b.pa), .list 4 (wns b.ac)]]⟩ ∧
  ∃ A G, At e 10 A ∧ At e 11 G ∧ SlR 4 tyA σ (wns (tickL (b.ac.take k) q hd)) A ∧ SlR 1 3 σ (ints (goneL (b.ac.take k) q hd)) G ∧ (∀ i, ¬ Oth A i → 3 ≤ i ∧ Oth G i) ∧ (∀ i, ¬ Oth G i → 3 ≤ i)) ?_ ?_
 ·exact ⟨(by first | rfl | (simp (disch := omega) only [go_sem, jA, jB, jC, jD, jE, jF, jG, jH, jI, jJ, ↓reduceIte, reduceCtorEq, jP, jO, jM, jN]; try rfl)), by simp, (by first | rfl | (simp (disch := omega) only [go_sem, jA, jB, jC, jD, jE, jF, jG, jH, jI, jJ, ↓reduceIte, reduceCtorEq, jP, jO, jM, jN]; try rfl)), (by first | rfl | (simp (disch := omega) only [go_sem, jA, jB, jC, jD, jE, jF, jG, jH, jI, jJ, ↓reduceIte, reduceCtorEq, jP, jO, jM, jN]; try rfl)), .nil, .nil, (by simp only [At]; try simp (disch := omega) only [go_sem, jA, jB, jC, jD, jE, jF, jG, jH, jI, jJ, ↓reduceIte, reduceCtorEq, jO, jM, jN, jK, jL]), (by simp only [At]; try simp (disch := omega) only [go_sem, jA, jB, jC, jD, jE, jF, jG, jH, jI, jJ, ↓reduceIte, reduceCtorEq, jO, jM, jN, jK, jL]), SlR.nil, SlR.nil, fun i hi => absurd (Oth.nil i) hi, fun i hi => absurd (Oth.nil i) hi⟩
 rintro k fe ob m c hk hm ⟨h40, hm1, ho1, ho2, A, G, h10, h11, hA, hG, hAn, hGn⟩
 simp (maxSteps := 1000000) only [go_sem, jA, jB, jC, jD, jE, jF, jG, jH, jI, jJ, ↓reduceIte, reduceCtorEq, jP, At] at h40 hm hm1 ho1 ho2 h10 h11
 have lt1 := tickL_len (b.ac.take k) q hd
 have lg1 := goneL_len (b.ac.take k) q hd
 rw [List.length_take] at lt1 lg1
 try simp (disch := omega) only [go_sem, jA, jB, jC, jD, jE, jF, jG, jH, jI, jJ, ↓reduceIte, reduceCtorEq, jO, jM, jN, jK, jL, h40, wns_length]
 refine cond_d (fun hlt => ?_) (fun hge => ?_)
 ·have hkl : k < b.ac.length := by omega
  have hk2 : b.ac[k]? = some b.ac[k] := List.getElem?_eq_getElem hkl
  have hts := tickL_snoc (q := q) (h := hd) hk2
  have hgs := goneL_snoc (q := q) (h := hd) hk2
  have hpl := hV.lo _ (List.mem_of_getElem? hk2)
  have hwb := wnB_bd (hV.wn _ (List.mem_of_getElem? hk2))
  have hcl := wnB_cs (hV.wn _ (List.mem_of_getElem? hk2))
  generalize b.ac[k] = w at *
  have z1 : ¬ 1 = m := by omega
  have z2 : ¬ 2 = m := by omega
  have hqk : q[w.p.toNat]? = some (q.getD w.p.toNat false) := by
   have : w.p.toNat < q.length := by omega
   simp [List.getD_eq_getElem?_getD, List.getElem?_eq_getElem this]
  have oG : ∀ i, i < 3 → Oth G i := fun i hi => Oth.em fun h => by have := hGn i h; omega
  have oA : ∀ i, i < 3 → Oth A i := fun i hi => Oth.em fun h => by have := (hAn i h).1; omega
  have hcz : (0 < (w.cs.length : Int)) ↔ w.cs ≠ [] := by rw [← List.length_pos_iff]; omega
  -- a warning that stays
  have stay : ∀ (cm : Int) (ob' : Nat → Option AObj) (c' : Nat), goneS q hd w = false → calmS q w = cm → (∀ i, i < m → ob' i = ob i) → ∀ A' ob4 m4 c4, SlR 4 tyA ⟨ob4, m4, c4⟩ (wns (tickL (b.ac.take k) q hd) ++ [.agg [.int .i64 w.p, .int .i64 w.t, .list 2 (css w.cs), .int .i64 cm]]) A' → Kp ⟨ob', m + 1, c'⟩ A ⟨ob4, m4, c4⟩ A' →
    m ≤ m4 ∧ 3 ≤ m4 ∧ ob4 1 = some ⟨1, 3, 31, false, true, [.agg [.nil, .nil, .nil]]⟩ ∧ ob4 2 = some ⟨2, 3, 31, false, true, [.agg [.list 4 (wts b.ps), .list 1 (lls b.pa), .list 4 (wns b.ac)]]⟩ ∧ SlR 4 tyA ((⟨ob4, m4, c4⟩ : St).trunc m4) (wns (tickL (b.ac.take (k + 1)) q hd)) A' ∧
    SlR 1 3 ((⟨ob4, m4, c4⟩ : St).trunc m4) (ints (goneL (b.ac.take (k + 1)) q hd)) G ∧ (∀ i, ¬ Oth A' i → 3 ≤ i ∧ Oth G i) := fun cm ob' c' hng hcv hfr A' ob4 m4 c4 hA' kA => by
   have q1 : m + 1 ≤ m4 := kA.1
   have q2 : ∀ i, i < m → Oth A i → ob4 i = ob i := fun i hi hh => (kA.2.1 i (by simp only; omega) hh).trans (hfr i hi)
   refine ⟨by omega, by omega, (q2 1 (by omega) (oA 1 (by omega))).trans ho1, (q2 2 (by omega) (oA 2 (by omega))).trans ho2, ?_, ?_, fun i hi => ?_⟩
   ·rw [hts, hng, if_neg (by simp), ← wns_snoc, wnv, hcv]; exact hA'.tr
   ·rw [hgs, hng, if_neg (by simp), List.append_nil]
    refine (SlR.tr (ob := _) (n := m4) (c := c4) (hG.move (by simp only; omega) fun i hi hh => ?_))
    simp only at hi ⊢
    exact q2 i hi (Oth.em fun h => hh (hAn i h).2)
   ·by_cases him : i < m
    ·exact hAn i fun hh => hi (kA.2.2 i (by simp only; omega) hh)
    ·exact ⟨by omega, hG.oth (by simp only; omega)⟩
  try simp (disch := omega) only [go_sem, jA, jB, jC, jD, jE, jF, jG, jH, jI, jJ, ↓reduceIte, reduceCtorEq, jO, jM, jN, jK, jL, h40, wns_length, wns_get, hk2, Option.map_some, wnv, z1, z2, css_length]
  refine ⟨by omega, by omega, ?_⟩
  refine gd_fd rfl (fun g4 => ?_) (fun g4 => ?_)
  ·have hcs := hcz.1 g4
   have hcv : calmS q w = 0 := by rw [calmS, if_pos (.inl hcs)]
   have hng : goneS q hd w = false := by simp [goneS, hcs]
   try simp (disch := omega) only [go_sem, jA, jB, jC, jD, jE, jF, jG, jH, jI, jJ, ↓reduceIte, reduceCtorEq, jO, jM, jN, jK, jL, z1, z2, h10]
   refine app_slr (L := wns (tickL (b.ac.take k) q hd)) (b := 48) (hA.move (by simp only; omega) fun i hi _ => ?_) (by rw [wns_length]; omega) (by rw [wns_length]; omega) fun A' τ hA' kA => ?_
   ·simp only at hi ⊢
    rw [upd_ne _ _ _ _ (by omega), upd_ne _ _ _ _ (by omega), upd_ne _ _ _ _ (by omega)]
   obtain ⟨ob4, m4, c4⟩ := τ
   obtain ⟨s1, s2, s3, s4, s5, s6, s7⟩ := stay 0 _ _ hng hcv (fun i hi => by rw [upd_ne _ _ _ _ (by omega), upd_ne _ _ _ _ (by omega), upd_ne _ _ _ _ (by omega)]) A' ob4 m4 c4 hA' kA
   try simp (disch := omega) only [go_sem, jA, jB, jC, jD, jE, jF, jG, jH, jI, jJ, ↓reduceIte, reduceCtorEq, jO, jM, jN, jK, jL]
   exact up_nextG m4 hkl s2 ⟨(by first | rfl | (simp (disch := omega) only [go_sem, jA, jB, jC, jD, jE, jF, jG, jH, jI, jJ, ↓reduceIte, reduceCtorEq, jP, jO, jM, jN]; try rfl)), by simp only [St.trunc]; omega, by rw [tr_ob (by omega)]; exact s3, by rw [tr_ob (by omega)]; exact s4, A', G, (by simp only [At]; try simp (disch := omega) only [go_sem, jA, jB, jC, jD, jE, jF, jG, jH, jI, jJ, ↓reduceIte, reduceCtorEq, jO, jM, jN, jK, jL]), (by simp only [At]; try simp (disch := omega) only [go_sem, jA, jB, jC, jD, jE, jF, jG, jH, jI, jJ, ↓reduceIte, reduceCtorEq, jO, jM, jN, jK, jL, h11]), s5, s6, s7, hGn⟩
  ·have hcs : w.cs = [] := Classical.byContradiction fun h => g4 (hcz.2 h)
   try simp (disch := omega) only [go_sem, jA, jB, jC, jD, jE, jF, jG, jH, jI, jJ, ↓reduceIte, reduceCtorEq, jO, jM, jN, jK, jL, z1, z2, bls_length, bls_get, hqk, Option.map_some]
   refine ⟨by omega, by omega, ?_⟩
   cases hqq : q.getD w.p.toNat false
   ·have hcv : calmS q w = 0 := by rw [calmS, if_pos (.inr hqq)]
    have hng : goneS q hd w = false := by rw [goneS, hqq]; simp
    try simp (disch := omega) only [go_sem, jA, jB, jC, jD, jE, jF, jG, jH, jI, jJ, ↓reduceIte, reduceCtorEq, jO, jM, jN, jK, jL, z1, z2, h10]
    refine app_slr (L := wns (tickL (b.ac.take k) q hd)) (b := 48) (hA.move (by simp only; omega) fun i hi _ => ?_) (by rw [wns_length]; omega) (by rw [wns_length]; omega) fun A' τ hA' kA => ?_
    ·simp only at hi ⊢
     rw [upd_ne _ _ _ _ (by omega), upd_ne _ _ _ _ (by omega), upd_ne _ _ _ _ (by omega)]
    obtain ⟨ob4, m4, c4⟩ := τ
    obtain ⟨s1, s2, s3, s4, s5, s6, s7⟩ := stay 0 _ _ hng hcv (fun i hi => by rw [upd_ne _ _ _ _ (by omega), upd_ne _ _ _ _ (by omega), upd_ne _ _ _ _ (by omega)]) A' ob4 m4 c4 hA' kA
    try simp (disch := omega) only [go_sem, jA, jB, jC, jD, jE, jF, jG, jH, jI, jJ, ↓reduceIte, reduceCtorEq, jO, jM, jN, jK, jL]
    exact up_nextG m4 hkl s2 ⟨(by first | rfl | (simp (disch := omega) only [go_sem, jA, jB, jC, jD, jE, jF, jG, jH, jI, jJ, ↓reduceIte, reduceCtorEq, jP, jO, jM, jN]; try rfl)), by simp only [St.trunc]; omega, by rw [tr_ob (by omega)]; exact s3, by rw [tr_ob (by omega)]; exact s4, A', G, (by simp only [At]; try simp (disch := omega) only [go_sem, jA, jB, jC, jD, jE, jF, jG, jH, jI, jJ, ↓reduceIte, reduceCtorEq, jO, jM, jN, jK, jL]), (by simp only [At]; try simp (disch := omega) only [go_sem, jA, jB, jC, jD, jE, jF, jG, jH, jI, jJ, ↓reduceIte, reduceCtorEq, jO, jM, jN, jK, jL, h11]), s5, s6, s7, hGn⟩
   ·have hcv : calmS q w = w.cm + 1 := by rw [calmS, if_neg (by rw [hqq]; simp [hcs])]
    try simp (disch := omega) only [go_sem, jA, jB, jC, jD, jE, jF, jG, jH, jI, jJ, ↓reduceIte, reduceCtorEq, jO, jM, jN, jK, jL, z1, z2]
    refine cond_d (fun g5 => ?_) (fun g5 => ?_)
    ·have hng : goneS q hd w = true := by rw [goneS, hqq]; simp [hcs]; omega
     try simp (disch := omega) only [go_sem, jA, jB, jC, jD, jE, jF, jG, jH, jI, jJ, ↓reduceIte, reduceCtorEq, jO, jM, jN, jK, jL, h11, z1, z2]
     refine app_slr (L := ints (goneL (b.ac.take k) q hd)) (b := 8) (hG.move (by simp only; omega) fun i hi _ => ?_) (by rw [ints_length]; omega) (by rw [ints_length]; omega) fun G' τ hG' kG => ?_
     ·simp only at hi ⊢
      rw [upd_ne _ _ _ _ (by omega), upd_ne _ _ _ _ (by omega)]
     obtain ⟨ob4, m4, c4⟩ := τ
     have q1 : m + 1 ≤ m4 := kG.1
     have q2 : ∀ i, i < m → Oth G i → ob4 i = ob i := fun i hi hh => (kG.2.1 i (by simp only; omega) hh).trans (by simp only; rw [upd_ne _ _ _ _ (by omega), upd_ne _ _ _ _ (by omega)])
     try simp (disch := omega) only [go_sem, jA, jB, jC, jD, jE, jF, jG, jH, jI, jJ, ↓reduceIte, reduceCtorEq, jO, jM, jN, jK, jL, h40]
     refine up_nextG m4 hkl (by omega) ⟨(by first | rfl | (simp (disch := omega) only [go_sem, jA, jB, jC, jD, jE, jF, jG, jH, jI, jJ, ↓reduceIte, reduceCtorEq, jP, jO, jM, jN]; try rfl)), by simp only [St.trunc]; omega, ?_, ?_, A, G', (by simp only [At]; try simp (disch := omega) only [go_sem, jA, jB, jC, jD, jE, jF, jG, jH, jI, jJ, ↓reduceIte, reduceCtorEq, jO, jM, jN, jK, jL, h10]), (by simp only [At]; try simp (disch := omega) only [go_sem, jA, jB, jC, jD, jE, jF, jG, jH, jI, jJ, ↓reduceIte, reduceCtorEq, jO, jM, jN, jK, jL]), ?_, ?_, fun i hi => ⟨(hAn i hi).1, kG.2.2 i (by simp only; have := hA.lt hi; simp only at this; omega) (hAn i hi).2⟩, fun i hi => Nat.le_of_not_lt fun hh => hi (kG.2.2 i (by simp only; omega) (oG i hh))⟩
     ·rw [tr_ob (by omega), q2 1 (by omega) (oG 1 (by omega)), ho1]
     ·rw [tr_ob (by omega), q2 2 (by omega) (oG 2 (by omega)), ho2]
     ·rw [hts, hng, if_pos rfl, List.append_nil]
      refine SlR.tr (ob := _) (n := m4) (c := c4) (hA.move (by simp only; omega) fun i hi hh => ?_)
      exact q2 i hi (hAn i hh).2
     ·rw [hgs, hng, if_pos rfl, ← ints_append]
      exact SlR.tr hG'
    ·have hng : goneS q hd w = false := by rw [goneS, hqq]; simp; omega
     try simp (disch := omega) only [go_sem, jA, jB, jC, jD, jE, jF, jG, jH, jI, jJ, ↓reduceIte, reduceCtorEq, jO, jM, jN, jK, jL, z1, z2, h10]
     refine app_slr (L := wns (tickL (b.ac.take k) q hd)) (b := 48) (hA.move (by simp only; omega) fun i hi _ => ?_) (by rw [wns_length]; omega) (by rw [wns_length]; omega) fun A' τ hA' kA => ?_
     ·simp only at hi ⊢
      rw [upd_ne _ _ _ _ (by omega), upd_ne _ _ _ _ (by omega), upd_ne _ _ _ _ (by omega)]
     obtain ⟨ob4, m4, c4⟩ := τ
     obtain ⟨s1, s2, s3, s4, s5, s6, s7⟩ := stay (w.cm + 1) _ _ hng hcv (fun i hi => by rw [upd_ne _ _ _ _ (by omega), upd_ne _ _ _ _ (by omega), upd_ne _ _ _ _ (by omega)]) A' ob4 m4 c4 hA' kA
     try simp (disch := omega) only [go_sem, jA, jB, jC, jD, jE, jF, jG, jH, jI, jJ, ↓reduceIte, reduceCtorEq, jO, jM, jN, jK, jL]
     exact up_nextG m4 hkl s2 ⟨(by first | rfl | (simp (disch := omega) only [go_sem, jA, jB, jC, jD, jE, jF, jG, jH, jI, jJ, ↓reduceIte, reduceCtorEq, jP, jO, jM, jN]; try rfl)), by simp only [St.trunc]; omega, by rw [tr_ob (by omega)]; exact s3, by rw [tr_ob (by omega)]; exact s4, A', G, (by simp only [At]; try simp (disch := omega) only [go_sem, jA, jB, jC, jD, jE, jF, jG, jH, jI, jJ, ↓reduceIte, reduceCtorEq, jO, jM, jN, jK, jL]), (by simp only [At]; try simp (disch := omega) only [go_sem, jA, jB, jC, jD, jE, jF, jG, jH, jI, jJ, ↓reduceIte, reduceCtorEq, jO, jM, jN, jK, jL, h11]), s5, s6, s7, hGn⟩
 ·obtain rfl : k = b.ac.length := by omega
  rw [List.take_length] at hA hG
  try simp (disch := omega) only [go_sem, jA, jB, jC, jD, jE, jF, jG, jH, jI, jJ, ↓reduceIte, reduceCtorEq, jO, jM, jN, jK, jL, ho1, ho2, h10, h11, hA.one, hG.one, hA.flat, hA.cells]
  rw [tickV, hE, tickR, if_pos hE]
  show Pub _ _ (.tuple [.agg [.list 4 (wts b.ps), .list 1 (lls b.pa), .list 4 (wns (tickL b.ac q hd))], .list 1 (ints (goneL b.ac q hd)), .int .i64 0])
  refine Pub.tu (.cons (Pub.ag (.cons (Pub.e (by simp [go_sem, wts_pur])) (.cons (Pub.e (by simp [go_sem, lls_pur])) (.cons (hA.pub (fun i hi hh => ?_) (wns_pur _) (wns_ok _)) .nil)))) (.cons (hG.pub (fun i _ hh => ?_) (ints_pur _) (ints_ok _)) (.cons (Pub.e rfl) .nil)))
  ·have := (hAn i hh).1
   simp only
   rw [upd_ne _ _ _ _ (by omega), upd_ne _ _ _ _ (by omega)]
  ·have := hGn i hh
   simp only
   rw [upd_ne _ _ _ _ (by omega), upd_ne _ _ _ _ (by omega)]
theorem app_fl {es b : Nat} {ty : TypeId} {l0 l : List AV} {σ : St} {K : AV → St → Prop} (hp : ∀ z ∈ l0 ++ l, z.pur = true) (h1 : l0.length + l.length ≤ 9223372036854775807) (h2 : (l0.length + l.length) * b ≤ 140737488355328) (k : K (.list es (l0 ++ l)) σ) :
  appC es b ty (.fl es l0) (.list es l) σ K :=
 ⟨fun _ _ h => by cases h; rfl, fun _ _ _ _ _ h => (by rcases h with h | ⟨_, h⟩ <;> cases h), rfl, hp, by rw [mxL]; exact h1, h2, k⟩
theorem ok_ref37_End (b : Bo) (p : Int) (c : Cs) (h : BoL b) : PC prog n_ref37_End [bov b, .int .i64 p, csv c] (endV b p c) := by
 refine PC_of_body b_ref37_End (by simp) ?_
 simp only [c_ref37_End, bov, csv]
 try simp (disch := omega) only [go_sem, jA, jB, jC, jD, jE, jF, jG, jH, jI, jJ, ↓reduceIte, reduceCtorEq, jO, jM, jN, jK, jL]
 have hC := ok_ref36_Check b h
 simp only [bov] at hC
 refine call_pc hC (by simp [go_sem, wts_pur, lls_pur, wns_pur]) ?_
 cases hv : vdB b <;> try simp (disch := omega) only [go_sem, jA, jB, jC, jD, jE, jF, jG, jH, jI, jJ, ↓reduceIte, reduceCtorEq, jO, jM, jN, jK, jL, chkE, hv, wts_length]
 ·exact end_bad (by rw [endE, if_pos hv]) (by omega)
 have hV := vdB_iff.1 hv
 have hp8 := hV.p
 refine gd_fd rfl (fun g1 => ?_) (fun g1 => ?_) <;> try simp (disch := omega) only [go_sem, jA, jB, jC, jD, jE, jF, jG, jH, jI, jJ, ↓reduceIte, reduceCtorEq, jO, jM, jN, jK, jL, wts_length]
 ·exact end_bad (by rw [endE, if_neg (by simp [hv]), if_pos (.inl g1)]) (by omega)
 refine cond_d (fun g2 => ?_) (fun g2 => ?_) <;> try simp (disch := omega) only [go_sem, jA, jB, jC, jD, jE, jF, jG, jH, jI, jJ, ↓reduceIte, reduceCtorEq, jO, jM, jN, jK, jL, wts_length]
 ·exact end_bad (by rw [endE, if_neg (by simp [hv]), if_pos (.inr g2)]) (by omega)
 have gp : ¬ (p < 0 ∨ (b.ps.length : Int) ≤ p) := by omega
 have e0 : ∀ n, (if plB b.ac p = false then 9 else if hsB (gA b.ac (plI b.ac p)).cs c then 0 else 9) = n → endE b p c = n := fun n hn => by rw [endE, if_neg (by simp [hv]), if_neg gp, hn]
 have hcp := fun σ => hV.copy (hcA_ref36_Copy σ b)
 simp only [bov] at hcp
 refine (hcp _).mono ?_
 rintro r ⟨ob1, n1, c1⟩ ⟨X, rfl, hX, hn1, hXn, ho1⟩
 have u1 := ho1 1 (by simp only; omega)
 have u2 := ho1 2 (by simp only; omega)
 try simp (disch := omega) only [go_sem, jA, jB, jC, jD, jE, jF, jG, jH, jI, jJ, ↓reduceIte, reduceCtorEq, jO, jM, jN, jK, jL] at u1
 try simp (disch := omega) only [go_sem, jA, jB, jC, jD, jE, jF, jG, jH, jI, jJ, ↓reduceIte, reduceCtorEq, jO, jM, jN, jK, jL] at u2
 try simp (disch := omega) only [go_sem, jA, jB, jC, jD, jE, jF, jG, jH, jI, jJ, ↓reduceIte, reduceCtorEq, jO, jM, jN, jK, jL] at hn1
 try simp (disch := omega) only [go_sem, jA, jB, jC, jD, jE, jF, jG, jH, jI, jJ, ↓reduceIte, reduceCtorEq, jO, jM, jN, jK, jL] at hXn
 obtain ⟨ob2, hob2⟩ : ∃ ob2, ob2 = upd (upd ob1 n1 (some ⟨c1, 3, 31, false, true, [.agg [.nil, .nil, .nil]]⟩)) n1 (some ⟨c1, 3, 31, false, true, [.agg [.list 4 (wts b.ps), .list 1 (lls b.pa), X]]⟩) := ⟨_, rfl⟩
 have hag : ∀ i, i < n1 → ob2 i = ob1 i := fun i hi => by rw [hob2, upd_ne _ _ _ _ (by omega), upd_ne _ _ _ _ (by omega)]
 have w3 : ob2 n1 = some ⟨c1, 3, 31, false, true, [.agg [.list 4 (wts b.ps), .list 1 (lls b.pa), X]]⟩ := by rw [hob2, upd_same]
 try simp (disch := omega) only [go_sem, jA, jB, jC, jD, jE, jF, jG, jH, jI, jJ, ↓reduceIte, reduceCtorEq, jO, jM, jN, jK, jL, hX.flat, hX.cells, hX.one]
 rw [← hob2]
 have hP := ok_ref37_place b p h
 simp only [bov] at hP
 refine call_lent hP (.cons (Pub.ag (.cons (Pub.e (by simp [go_sem, wts_pur])) (.cons (Pub.e (by simp [go_sem, lls_pur])) (.cons (hX.pub (fun i hi _ => hag i hi) (wns_pur _) (wns_ok _)) .nil)))) (.cons (.pure rfl) .nil)) rfl ?_
 try simp (disch := omega) only [go_sem, jA, jB, jC, jD, jE, jF, jG, jH, jI, jJ, ↓reduceIte, reduceCtorEq, jO, jM, jN, jK, jL]
 have w1 := (hag 1 (by omega)).trans u1
 have w2 := (hag 2 (by omega)).trans u2
 cases hb : plB b.ac p <;> try simp (disch := omega) only [go_sem, jA, jB, jC, jD, jE, jF, jG, jH, jI, jJ, ↓reduceIte, reduceCtorEq, jO, jM, jN, jK, jL, w2]
 ·exact end_bad (e0 9 (by rw [if_pos hb])) (by omega)
 obtain ⟨h1, h2, h3⟩ := plB_get hb
 have hcl := wnB_bd (hV.wn _ (List.mem_of_getElem? h2))
 have hcl2 := wnB_cs (hV.wn _ (List.mem_of_getElem? h2))
 rcases hX with ⟨_, h0⟩ | ⟨id, g, rfl, hid, hoX⟩
 ·have : (wns b.ac).length = 0 := by rw [h0]; rfl
  rw [wns_length] at this; omega
 simp only at hid hoX
 have hid3 := hXn id fun h => h _ _ _ _ rfl
 have hoX2 := (hag id hid).trans hoX
 have z1 : ¬ 1 = id := by omega
 have z2 : ¬ 2 = id := by omega
 have z3 : ¬ n1 = id := by omega
 have hH := ok_ref37_has (gA b.ac (plI b.ac p)).cs c (by omega)
 simp only [csv] at hH
 have hdl := delC_at (c := c) hcl.2.2.2.2.1
 have hsl := hsI_le (gA b.ac (plI b.ac p)).cs c
 have hputs : ∀ x, (wns b.ac).set (plI b.ac p) x = wns (b.ac.take (plI b.ac p)) ++ x :: wns (b.ac.drop (plI b.ac p + 1)) := fun x => by
  rw [List.set_eq_take_append_cons_drop, if_pos (by rw [wns_length]; exact h1), wns_take, wns_drop]
 have hEL : endL b.ac p c = b.ac.take (plI b.ac p) ++ ⟨(gA b.ac (plI b.ac p)).p, (gA b.ac (plI b.ac p)).t, delC (gA b.ac (plI b.ac p)).cs c, (gA b.ac (plI b.ac p)).cm⟩ :: b.ac.drop (plI b.ac p + 1) := rfl
 generalize gA b.ac (plI b.ac p) = w at *
 try simp (disch := omega) only [go_sem, jA, jB, jC, jD, jE, jF, jG, jH, jI, jJ, ↓reduceIte, reduceCtorEq, jO, jM, jN, jK, jL, w1, w3, hoX2, wns_get, h2, Option.map_some, wnv, wns_length]
 refine ⟨by omega, by omega, call_pc hH (by simp [go_sem, css_pur]) ?_⟩
 try simp (disch := omega) only [go_sem, jA, jB, jC, jD, jE, jF, jG, jH, jI, jJ, ↓reduceIte, reduceCtorEq, jO, jM, jN, jK, jL]
 cases hbb : hsB w.cs c <;> try simp (disch := omega) only [go_sem, jA, jB, jC, jD, jE, jF, jG, jH, jI, jJ, ↓reduceIte, reduceCtorEq, jO, jM, jN, jK, jL, w2]
 ·exact end_bad (e0 9 (by rw [if_neg (by simp [hb]), if_neg (by simp [hbb])])) (by omega)
 have hE : endE b p c = 0 := e0 0 (by rw [if_neg (by simp [hb]), if_pos hbb])
 try simp (disch := omega) only [go_sem, jA, jB, jC, jD, jE, jF, jG, jH, jI, jJ, ↓reduceIte, reduceCtorEq, jO, jM, jN, jK, jL, w3, hoX2, wns_get, h2, Option.map_some, wnv, wns_length, css_length]
 have hlt : hsI w.cs c < w.cs.length := by
  rw [hsB, Option.any_eq_true] at hbb
  obtain ⟨x, hx, _⟩ := hbb
  exact (List.getElem?_eq_some_iff.1 hx).1
 have e1 : ((hsI w.cs c : Int) + 1).toNat = hsI w.cs c + 1 := by omega
 refine ⟨by omega, by omega, by omega, by omega, by omega, by omega, ?_⟩
 rw [e1, css_take, css_drop]
 refine app_fl ?_ ?_ ?_ ?_
 ·rw [← css_app]; exact css_pur _
 ·rw [css_length, css_length, List.length_take, List.length_drop]; omega
 ·rw [css_length, css_length, List.length_take, List.length_drop]; omega
 rw [← css_app, hdl hbb]
 try simp (disch := omega) only [go_sem, jA, jB, jC, jD, jE, jF, jG, jH, jI, jJ, ↓reduceIte, reduceCtorEq, jO, jM, jN, jK, jL, w3, w2, hoX2, wns_get, h2, Option.map_some, wnv, wns_length, css_length, z2, z3, hputs]
 refine ⟨by omega, by omega, ?_⟩
 try simp (disch := omega) only [go_sem, jA, jB, jC, jD, jE, jF, jG, jH, jI, jJ, ↓reduceIte, reduceCtorEq, jO, jM, jN, jK, jL, w3, w2, hoX2, wns_get, h2, Option.map_some, wnv, wns_length, css_length, z2, z3, hputs]
 rw [endV, hE, endR, if_pos hE]
 show Pub _ _ (.tuple [.agg [.list 4 (wts b.ps), .list 1 (lls b.pa), .list 4 (wns (endL b.ac p c))], .int .i64 0])
 refine Pub.tu (.cons (Pub.ag (.cons (Pub.e (by simp [go_sem, wts_pur])) (.cons (Pub.e (by simp [go_sem, lls_pur])) (.cons ?_ .nil)))) (.cons (Pub.e rfl) .nil))
 rw [hEL]
 refine pub_mid (ty := tyA) (ro := false) (ap := true) (F := .list 2 (css (delC w.cs c))) (w := ⟨w.p, w.t, delC w.cs c, w.cm⟩) ?_ ?_ (Pub.e (by simp [go_sem, css_pur]))
 ·simp only
  rw [upd_ne _ _ _ _ (fun e => z2 e.symm), upd_same]
 ·rw [List.length_take, List.length_drop]; omega
theorem split_pl {l : List Wn} {p : Int} (hb : plB l p = true) : l = l.take (plI l p) ++ gA l (plI l p) :: l.drop (plI l p + 1) := by
 obtain ⟨h1, h2, h3⟩ := plB_get hb
 exact (take_mid h2).symm
theorem delC_ok {l : List Cs} (c : Cs) (h : cauB l = true) : cauB (delC l c) = true := by
 rw [cau_iff] at h ⊢
 exact ⟨fun x hx => h.1 x (List.mem_filter.1 hx).1, h.2.filter _⟩
theorem NlR.list1 {l l' : List AV} (h : NlRs l l') (h1 : ∀ x ∈ l, x.cells = [x]) (h2 : ∀ x ∈ l', okE 1 x ∧ x.cells = [x]) : NlR (.list 1 l) (.list 1 l') := fun S w v hv => by
 obtain ⟨hl, hg⟩ := h.get
 cases hv with
 | listNil es a c =>
  have : l' = [] := List.eq_nil_of_length_eq_zero (by rw [← hl]; rfl)
  subst this
  exact .listNil _ _ _
 | list f hl0 hcap hS hc hw hvv =>
  rw [hl] at hcap hw ⊢
  refine .list f (fun e => ?_) hcap hS (fun i x hx => (h2 x (List.mem_of_getElem? hx)).1) hw fun i x j y hx hy => ?_
  ·subst e
   exact hl0 (List.eq_nil_of_length_eq_zero hl)
  ·obtain ⟨z, hz, hr⟩ := hg i x hx
   rw [(h2 x (List.mem_of_getElem? hx)).2] at hy
   have hj : j = 0 := by have := (List.getElem?_eq_some_iff.1 hy).1; simpa using this
   subst hj
   obtain rfl : x = y := by simpa using hy
   exact hr _ _ _ (hvv i z 0 z hz (by rw [h1 z (List.mem_of_getElem? hz)]; rfl))
def ex37 (l : List Wn) : Bo := ⟨[⟨0, 1, 0, 1⟩], [[]], l⟩
theorem ex37_sz (cs : List Cs) (h : cs.length ≤ 3) (cm : Int) : BoL (ex37 [⟨0, 7, cs, cm⟩]) := ⟨by simp [ex37], by simp [ex37], by intro x hx; simp [ex37] at hx; subst hx; simp, by simp [ex37], by intro w hw; simp [ex37] at hw; subst hw; simp; omega⟩
theorem ex37_sz0 : BoL (ex37 []) := ⟨by simp [ex37], by simp [ex37], by intro x hx; simp [ex37] at hx; subst hx; simp, by simp [ex37], by intro w hw; simp [ex37] at hw⟩
theorem ok_law37_sane : PC prog n_law37_sane [] (.bool true) := by
 refine PC_of_body b_law37_sane (by simp) ?_
 simp only [c_law37_sane, go_sem, jA, jB, jC, jD, jE, jF, jG, jH, jI, jJ, ↓reduceIte, reduceCtorEq, jP]
 have h1 : PC prog n_cause_Issue [bov (ex37 []), .int .i64 0, .int .i64 7, csv ⟨2, 1⟩] (.tuple [bov (ex37 [⟨0, 7, [⟨2, 1⟩], 0⟩]), .int .i64 0]) := ok_cause_Issue (ex37 []) 0 7 ⟨2, 1⟩ ex37_sz0
 have h2 : PC prog n_cause_Causes [bov (ex37 [⟨0, 7, [⟨2, 1⟩], 0⟩]), .int .i64 0] (.tuple [.list 2 [csv ⟨2, 1⟩], .bool true]) := ok_cause_Causes _ 0 (ex37_sz _ (by simp) _)
 have h3 : PC prog n_cause_Tick [bov (ex37 [⟨0, 7, [⟨2, 1⟩], 0⟩]), .list 1 [.bool true], .int .i64 2] (.tuple [bov (ex37 [⟨0, 7, [⟨2, 1⟩], 0⟩]), .list 1 [], .int .i64 0]) := ok_cause_Tick _ [true] 2 (ex37_sz _ (by simp) _) (by simp)
 have h4 : PC prog n_cause_End [bov (ex37 [⟨0, 7, [⟨2, 1⟩], 0⟩]), .int .i64 0, csv ⟨2, 1⟩] (.tuple [bov (ex37 [⟨0, 7, [], 0⟩]), .int .i64 0]) := ok_cause_End _ 0 ⟨2, 1⟩ (ex37_sz _ (by simp) _)
 have h5 : PC prog n_cause_Tick [bov (ex37 [⟨0, 7, [], 0⟩]), .list 1 [.bool true], .int .i64 2] (.tuple [bov (ex37 [⟨0, 7, [], 1⟩]), .list 1 [], .int .i64 0]) := ok_cause_Tick _ [true] 2 (ex37_sz _ (by simp) _) (by simp)
 have h6 : PC prog n_cause_Tick [bov (ex37 [⟨0, 7, [], 1⟩]), .list 1 [.bool true], .int .i64 2] (.tuple [bov (ex37 []), .list 1 [.int .i64 0], .int .i64 0]) := ok_cause_Tick _ [true] 2 (ex37_sz _ (by simp) _) (by simp)
 have hn : NlR (.agg [.list 4 [.agg [.int .i64 0, .int .i64 1, .int .i64 0, .int .i64 1]], .list 1 [.nil], .nil]) (bov (ex37 [])) := .agg (.cons .rfl (.cons (NlR.list1 (l := [.nil]) (l' := [.list 1 []]) (.cons (.nil 1) .nil) (fun x hx => by simp at hx; subst hx; rfl) (fun x hx => by simp at hx; subst hx; exact ⟨⟨rfl, rfl⟩, rfl⟩)) (.cons (.nil 4) .nil)))
 have h1' := pc_nl h1 (.cons hn (NlRs.refl _))
 simp only [bov, ex37, wts, wtv, lls, ints, wns, wnv, css, csv, List.map_cons, List.map_nil] at h1' h2 h3 h4 h5 h6
 try simp (disch := omega) only [go_sem, jA, jB, jC, jD, jE, jF, jG, jH, jI, jJ, ↓reduceIte, reduceCtorEq, jO, jM, jN, jK, jL]
 refine call_pc h1' (by simp [go_sem]) ?_
 try simp (disch := omega) only [go_sem, jA, jB, jC, jD, jE, jF, jG, jH, jI, jJ, ↓reduceIte, reduceCtorEq, jO, jM, jN, jK, jL]
 refine call_pc h2 (by simp [go_sem]) ?_
 try simp (disch := omega) only [go_sem, jA, jB, jC, jD, jE, jF, jG, jH, jI, jJ, ↓reduceIte, reduceCtorEq, jO, jM, jN, jK, jL]
 refine call_pc h3 (by simp [go_sem]) ?_
 try simp (disch := omega) only [go_sem, jA, jB, jC, jD, jE, jF, jG, jH, jI, jJ, ↓reduceIte, reduceCtorEq, jO, jM, jN, jK, jL]
 refine call_pc h4 (by simp [go_sem]) ?_
 try simp (disch := omega) only [go_sem, jA, jB, jC, jD, jE, jF, jG, jH, jI, jJ, ↓reduceIte, reduceCtorEq, jO, jM, jN, jK, jL]
 refine call_pc h5 (by simp [go_sem]) ?_
 try simp (disch := omega) only [go_sem, jA, jB, jC, jD, jE, jF, jG, jH, jI, jJ, ↓reduceIte, reduceCtorEq, jO, jM, jN, jK, jL]
 refine call_pc h6 (by simp [go_sem]) ?_
 try simp (disch := omega) only [go_sem, jA, jB, jC, jD, jE, jF, jG, jH, jI, jJ, ↓reduceIte, reduceCtorEq, jO, jM, jN, jK, jL]
 exact Pub.pure rfl
theorem call_rodK {P : Program} {σ : St} {f : Nat} {args args' : List AV} {r : AV} {K : AV → St → Prop} (d : Nat) (o : AObj) (ho : σ.ob d = some o) (h : PC P f args' r) (hp : Lent ⟨fun i => if decide (i ≠ d) then none else σ.ob i, σ.n, σ.c⟩ args args') (ha : ∀ a ∈ args', a.pur = true)
  (hK : ∀ ob', (∀ j, j ≠ d → ob' j = σ.ob j) → ob' d = some { o with ro := true } → K r ⟨ob', σ.n, σ.c⟩) : HC P f args σ K :=
 call_ro (fun i => decide (i ≠ d)) h hp ha (hK _ (fun j hj => by simp [hj]) (by simp [ho]))
theorem boZ_sz : BoL boZ := ⟨by simp [boZ], by simp [boZ], by simp [boZ], by simp [boZ], by simp [boZ]⟩
theorem iss_sz (b : Bo) (p t : Int) (c : Cs) : BoL (issR b p t c) := by
 rw [issR]
 split
 ·rename_i e
  have h0 : vdB b = true ∧ ¬ (p < 0 ∨ (b.ps.length : Int) ≤ p) ∧ ¬ (t < 0 ∨ 16777216 < t) ∧ cauE c = 0 := by
   rw [issE] at e
   split at e
   ·omega
   ·rename_i h1
    split at e
    ·omega
    ·rename_i h2
     split at e
     ·omega
     ·rename_i h3
      exact ⟨by simpa using h1, h2, h3, e⟩
  obtain ⟨h1, h2, h3, h4⟩ := h0
  exact ((vdB_iff.1 h1).iss (by omega) (by omega) (cauE_csB.1 h4)).sz
 ·exact boZ_sz
theorem putC_ok {b : Bo} {p : Int} {cs : List Cs} (h : Vb b) (hb : plB b.ac p = true) (hc : cauB cs = true) (hl : cs.length ≤ (gA b.ac (plI b.ac p)).cs.length) : Vb ⟨b.ps, b.pa, putC b.ac (plI b.ac p) cs⟩ := by
 obtain ⟨h1, h2, h3⟩ := plB_get hb
 obtain ⟨a1, a2⟩ := ac_iff.1 h.c
 rw [split_pl hb] at a1 a2
 rw [List.pairwise_append, List.pairwise_cons] at a2
 refine h.mk_ac (fun w hw => ?_) ?_
 ·rw [putC] at hw
  rcases List.mem_append.1 hw with hw | hw
  ·exact a1 w (List.mem_append_left _ hw)
  ·rcases List.mem_cons.1 hw with rfl | hw
   ·obtain ⟨b1, b2, b3⟩ := a1 _ (List.mem_append_right _ (List.mem_cons_self ..))
    refine ⟨b1, b2, ?_⟩
    have hb := wnB_bd b3
    simp only [wnB, Bool.and_eq_true, decide_eq_true_eq, Bool.or_eq_true] at b3 ⊢
    refine ⟨⟨⟨b3.1.1.1, hc⟩, b3.1.2⟩, ?_⟩
    rcases b3.2 with h5 | h5
    ·rw [h5] at hl
     exact .inl (List.eq_nil_of_length_eq_zero (by simpa using hl))
    ·exact .inr h5
   ·exact a1 w (List.mem_append_right _ (List.mem_cons_of_mem _ hw))
 ·rw [putC, List.pairwise_append, List.pairwise_cons]
  refine ⟨a2.1, a2.2.1, fun a ha b' hb' => ?_⟩
  rcases List.mem_cons.1 hb' with rfl | hb'
  ·exact a2.2.2 a ha (gA b.ac (plI b.ac p)) (List.mem_cons_self ..)
  ·exact a2.2.2 a ha b' (List.mem_cons_of_mem _ hb')
theorem cs_gA {b : Bo} {p : Int} (h : Vb b) (hb : plB b.ac p = true) : cauB (gA b.ac (plI b.ac p)).cs = true := (wnB_bd (h.wn _ (List.mem_of_getElem? (plB_get hb).2.1))).2.2.2.2.1
theorem end_sz (b : Bo) (p : Int) (c : Cs) : BoL (endR b p c) := by
 rw [endR]
 split
 ·rename_i e
  rw [endE] at e
  split at e
  ·omega
  ·rename_i h1
   split at e
   ·omega
   ·split at e
    ·omega
    ·rename_i h3
     have hV := vdB_iff.1 (by simpa using h1)
     have hb : plB b.ac p = true := by simpa using h3
     exact (putC_ok hV hb (delC_ok c (cs_gA hV hb)) (List.length_filter_le _ _)).sz
 ·exact boZ_sz
theorem keep_sz (b : Bo) (p : Int) (ks : List Cs) : BoL (keepR b p ks) := by
 rw [keepR]
 split
 ·rename_i e
  rw [keepE] at e
  split at e
  ·omega
  ·rename_i h1
   exact ((vdB_iff.1 (by simpa using h1)).keep).sz
 ·exact boZ_sz
theorem tick_sz (b : Bo) (q : List Bool) (h : Int) : BoL (tickR b q h).1 := by
 rw [tickR]
 split
 ·rename_i e
  rw [tickE] at e
  split at e
  ·omega
  ·rename_i h1
   split at e
   ·omega
   ·split at e
    ·omega
    ·rename_i h3
     exact ((vdB_iff.1 (by simpa using h1)).tick (by omega)).sz
 ·exact boZ_sz
theorem tick_len (b : Bo) (q : List Bool) (h : Int) (hb : BoL b) : (tickR b q h).2.length ≤ 9223372036854775807 := by
 have h1 := goneL_len b.ac q h
 have h2 := hb.a
 rw [tickR]
 split
 ·simp only; omega
 ·simp
theorem act_len (x : Bo) (n : Int) (h : BoL x) : ((actO x n).getD wnZ).cs.length ≤ 9223372036854775807 := by
 cases e : actO x n with
 | none => simp [wnZ]
 | some w =>
  rw [actO] at e
  split at e
  ·exact h.c w (List.mem_of_find?_eq_some e)
  ·cases e
set_option maxHeartbeats 8000000 in
theorem ok_law37_CauseDoes (t : List Int) (raw : Bo) (point time hold : Int) (c : Cs) (keep : List Cs) (quiet : List Bool) (hr : BoL raw) (hk : keep.length ≤ 8796093021952) (hq : quiet.length ≤ 9223372036854775807)
  (hp : -9223372036854775808 ≤ point ∧ point ≤ 9223372036854775807) (ht : -9223372036854775808 ≤ time ∧ time ≤ 9223372036854775807) (hh : -9223372036854775808 ≤ hold ∧ hold ≤ 9223372036854775807) :
  PC prog n_law37_CauseDoes [.list 1 (ints t), bov raw, .int .i64 point, .int .i64 time, .int .i64 hold, csv c, .list 2 (css keep), .list 1 (bls quiet)] (.bool true) := by
 refine PC_of_body b_law37_CauseDoes (by simp) ?_
 simp only [c_law37_CauseDoes, go_sem, jA, jB, jC, jD, jE, jF, jG, jH, jI, jJ, ↓reduceIte, reduceCtorEq, jP, bov, csv]
 try simp (disch := omega) only [go_sem, jA, jB, jC, jD, jE, jF, jG, jH, jI, jJ, ↓reduceIte, reduceCtorEq, jO, jM, jN, jK, jL]
 refine call_pc ok_law37_sane (by simp) ?_
 try simp (disch := omega) only [go_sem, jA, jB, jC, jD, jE, jF, jG, jH, jI, jJ, ↓reduceIte, reduceCtorEq, jO, jM, jN, jK, jL, wts_length, lls_length, wns_length, ints_length, css_length, bls_length]
 refine awp_upG [17, 19, 80, 81, 82, 83, 84, 85, 86, 87, 88] (by kernel_rfl) raw.pa.length (fun k e σ => e 80 = .int .i64 k ∧ 2 ≤ σ.n ∧ (∃ v, e 17 = .int .i64 v) ∧ σ.ob 0 = some ⟨0, 3, 31, false, true, [.agg [.list 4 (wts raw.ps), .list 1 (lls raw.pa), .list 4 (wns raw.ac)]]⟩ ∧ σ.ob 1 = some ⟨1, 2, 39, false, true, [.agg [.int .i64 c.k, .int .i64 c.s]]⟩) ?_ ?_
 ·exact ⟨(by first | rfl | (simp (disch := omega) only [go_sem, jA, jB, jC, jD, jE, jF, jG, jH, jI, jJ, ↓reduceIte, reduceCtorEq, jP, jO, jM, jN]; try rfl)), Nat.le_refl _, ⟨_, by try simp (disch := omega) only [go_sem, jA, jB, jC, jD, jE, jF, jG, jH, jI, jJ, ↓reduceIte, reduceCtorEq, jO, jM, jN, jK, jL]; rfl⟩, (by first | rfl | (simp (disch := omega) only [go_sem, jA, jB, jC, jD, jE, jF, jG, jH, jI, jJ, ↓reduceIte, reduceCtorEq, jP, jO, jM, jN]; try rfl)), (by first | rfl | (simp (disch := omega) only [go_sem, jA, jB, jC, jD, jE, jF, jG, jH, jI, jJ, ↓reduceIte, reduceCtorEq, jP, jO, jM, jN]; try rfl))⟩
 rintro k fe ob m cc hk2 hm ⟨hki, hm1, ⟨v, h17⟩, ho, ho1⟩
 simp (maxSteps := 1000000) only [go_sem, jA, jB, jC, jD, jE, jF, jG, jH, jI, jJ, ↓reduceIte, reduceCtorEq, jP] at hki hm hm1 h17 ho ho1
 try simp (disch := omega) only [go_sem, jA, jB, jC, jD, jE, jF, jG, jH, jI, jJ, ↓reduceIte, reduceCtorEq, jO, jM, jN, jK, jL, hki, lls_length]
 have hq2 := hr.q
 have ha := hr.a
 refine cond_d (fun hlt => ?_) (fun hge => ?_)
 ·have hkl : k < raw.pa.length := by omega
  have hk2 : raw.pa[k]? = some raw.pa[k] := List.getElem?_eq_getElem hkl
  generalize raw.pa[k] = x at *
  try simp (disch := omega) only [go_sem, jA, jB, jC, jD, jE, jF, jG, jH, jI, jJ, ↓reduceIte, reduceCtorEq, jO, jM, jN, jK, jL, hki, lls_length, lls_get, hk2, Option.map_some, h17, ints_length]
  refine ⟨by omega, by omega, ?_⟩
  exact up_nextG m hkl (by omega) ⟨(by first | rfl | (simp (disch := omega) only [go_sem, jA, jB, jC, jD, jE, jF, jG, jH, jI, jJ, ↓reduceIte, reduceCtorEq, jP, jO, jM, jN]; try rfl)), by simp only [St.trunc]; omega, ⟨_, by try simp (disch := omega) only [go_sem, jA, jB, jC, jD, jE, jF, jG, jH, jI, jJ, ↓reduceIte, reduceCtorEq, jO, jM, jN, jK, jL]; rfl⟩, by rw [tr_ob (by omega)]; exact ho, by rw [tr_ob (by omega)]; exact ho1⟩
 clear hge hki hk2
 try simp (disch := omega) only [go_sem, jA, jB, jC, jD, jE, jF, jG, jH, jI, jJ, ↓reduceIte, reduceCtorEq, jO, jM, jN, jK, jL, ho, wns_length]
 refine awp_upG [17, 21, 92, 93, 94, 95, 96, 97, 98, 99, 100, 101] (by kernel_rfl) raw.ac.length (fun k e σ => e 92 = .int .i64 k ∧ 2 ≤ σ.n ∧ (∃ v, e 17 = .int .i64 v) ∧ σ.ob 0 = some ⟨0, 3, 31, false, true, [.agg [.list 4 (wts raw.ps), .list 1 (lls raw.pa), .list 4 (wns raw.ac)]]⟩ ∧ σ.ob 1 = some ⟨1, 2, 39, false, true, [.agg [.int .i64 c.k, .int .i64 c.s]]⟩) ?_ ?_
 ·exact ⟨(by first | rfl | (simp (disch := omega) only [go_sem, jA, jB, jC, jD, jE, jF, jG, jH, jI, jJ, ↓reduceIte, reduceCtorEq, jP, jO, jM, jN]; try rfl)), by simp only; omega, ⟨v, by try simp (disch := omega) only [go_sem, jA, jB, jC, jD, jE, jF, jG, jH, jI, jJ, ↓reduceIte, reduceCtorEq, jO, jM, jN, jK, jL]; exact h17⟩, ho, ho1⟩
 clear h17 ho ho1 hm hm1
 rintro k fe ob m cc hk2 hm ⟨hki, hm1, ⟨v, h17⟩, ho, ho1⟩
 simp (maxSteps := 1000000) only [go_sem, jA, jB, jC, jD, jE, jF, jG, jH, jI, jJ, ↓reduceIte, reduceCtorEq, jP] at hki hm hm1 h17 ho ho1
 try simp (disch := omega) only [go_sem, jA, jB, jC, jD, jE, jF, jG, jH, jI, jJ, ↓reduceIte, reduceCtorEq, jO, jM, jN, jK, jL, hki, wns_length]
 refine cond_d (fun hlt => ?_) (fun hge => ?_)
 ·have hkl : k < raw.ac.length := by omega
  have hk2 : raw.ac[k]? = some raw.ac[k] := List.getElem?_eq_getElem hkl
  generalize raw.ac[k] = x at *
  have z0 : ¬ 0 = m := by omega
  have z1 : ¬ 1 = m := by omega
  try simp (disch := omega) only [go_sem, jA, jB, jC, jD, jE, jF, jG, jH, jI, jJ, ↓reduceIte, reduceCtorEq, jO, jM, jN, jK, jL, hki, wns_length, wns_get, hk2, Option.map_some, h17, wnv]
  refine ⟨by omega, by omega, ?_⟩
  exact up_nextG (m + 1) hkl (by omega) ⟨(by first | rfl | (simp (disch := omega) only [go_sem, jA, jB, jC, jD, jE, jF, jG, jH, jI, jJ, ↓reduceIte, reduceCtorEq, jP, jO, jM, jN]; try rfl)), by simp only [St.trunc]; omega, ⟨_, by try simp (disch := omega) only [go_sem, jA, jB, jC, jD, jE, jF, jG, jH, jI, jJ, ↓reduceIte, reduceCtorEq, jO, jM, jN, jK, jL]; rfl⟩, by rw [tr_ob (by omega), upd_ne _ _ _ _ z0, upd_ne _ _ _ _ z0]; exact ho, by rw [tr_ob (by omega), upd_ne _ _ _ _ z1, upd_ne _ _ _ _ z1]; exact ho1⟩
 clear hge hki hk2
 try simp (disch := omega) only [go_sem, jA, jB, jC, jD, jE, jF, jG, jH, jI, jJ, ↓reduceIte, reduceCtorEq, jO, jM, jN, jK, jL]
 refine call_pc (ok_mk_Few t) (by simp [go_sem]) ?_
 cases hfew : fewB t
 ·try simp (disch := omega) only [go_sem, jA, jB, jC, jD, jE, jF, jG, jH, jI, jJ, ↓reduceIte, reduceCtorEq, jO, jM, jN, jK, jL]
  exact Pub.pure rfl
 have hlt : t.length ≤ 9223372036854775807 := by simp [fewB] at hfew; omega
 try simp (disch := omega) only [go_sem, jA, jB, jC, jD, jE, jF, jG, jH, jI, jJ, ↓reduceIte, reduceCtorEq, jO, jM, jN, jK, jL, h17]
 refine cond_d (fun hv => ?_) (fun hv => ?_) <;> try simp (disch := omega) only [go_sem, jA, jB, jC, jD, jE, jF, jG, jH, jI, jJ, ↓reduceIte, reduceCtorEq, jO, jM, jN, jK, jL]
 ·exact Pub.pure rfl
 clear h17 hv
 refine call_hc (ok_mk_New _ t) ?_
 have z0m : ¬ 0 = m := by omega
 have z1m : ¬ 1 = m := by omega
 try simp (disch := omega) only [go_sem, jA, jB, jC, jD, jE, jF, jG, jH, jI, jJ, ↓reduceIte, reduceCtorEq, jO, jM, jN, jK, jL]
 refine (hc_flow_Board _ m cc t 0 hlt (by simp only [St.push]; omega) (by try simp (disch := omega) only [go_sem, jA, jB, jC, jD, jE, jF, jG, jH, jI, jJ, ↓reduceIte, reduceCtorEq, jO, jM, jN, jK, jL])).mono ?_
 intro r τ hD
 obtain ⟨⟨b, rfl, hB⟩, hn, ⟨at1, hd⟩, hf⟩ := hD.use (by simp only [St.push]; omega)
 obtain ⟨ob1, m1, c1⟩ := τ
 simp only [St.push] at hn hd hf
 subst hn
 clear hD
 have w0 := hf 0 (by omega) z0m
 have w1 := hf 1 (by omega) z1m
 rw [upd_ne _ _ _ _ z0m, ho] at w0
 rw [upd_ne _ _ _ _ z1m, ho1] at w1
 have hV := hB.v
 have hl3 := hB.p.2.1
 have hbs := hV.sz
 have z1 : ¬ m = m + 1 := by omega
 try simp (disch := omega) only [go_sem, jA, jB, jC, jD, jE, jF, jG, jH, jI, jJ, ↓reduceIte, reduceCtorEq, jO, jM, jN, jK, jL, bov]
 refine (hc_flow_Cause _ m cc t at1 hlt (by simp only; omega) (by try simp (disch := omega) only [go_sem, jA, jB, jC, jD, jE, jF, jG, jH, jI, jJ, ↓reduceIte, reduceCtorEq, jO, jM, jN, jK, jL, z1]; exact hd)).mono ?_
 intro r τ hD
 obtain ⟨⟨made, rfl, hmade⟩, hn, ⟨at2, hd2⟩, hf2⟩ := hD.use (by simp only; omega)
 obtain ⟨ob2, m2, c2⟩ := τ
 simp only at hn hd2 hf2
 subst hn
 clear hD
 have x0 := hf2 0 (by omega) z0m
 have x1 := hf2 1 (by omega) z1m
 have x2 := hf2 (m + 1) (by omega) (by omega)
 rw [upd_ne _ _ _ _ (by omega), upd_ne _ _ _ _ (by omega), w0] at x0
 rw [upd_ne _ _ _ _ (by omega), upd_ne _ _ _ _ (by omega), w1] at x1
 rw [upd_same] at x2
 have y1 : ¬ m + 1 = m + 2 := by omega
 have y2 : ¬ m = m + 2 := by omega
 try simp (disch := omega) only [go_sem, jA, jB, jC, jD, jE, jF, jG, jH, jI, jJ, ↓reduceIte, reduceCtorEq, jO, jM, jN, jK, jL, csv, x2, y1]
 have hqt := fun σ a h1 h2 => hc_flow_Quiet σ m cc t a b (by omega) hlt h1 h2
 simp only [bov] at hqt
 refine (hqt _ at2 (by simp only; omega) (by try simp (disch := omega) only [go_sem, jA, jB, jC, jD, jE, jF, jG, jH, jI, jJ, ↓reduceIte, reduceCtorEq, jO, jM, jN, jK, jL, y2]; exact hd2)).mono ?_
 intro r τ hD
 obtain ⟨⟨calm, rfl, hcl⟩, hn, -, hf3⟩ := hD.use (by simp only; omega)
 obtain ⟨ob3, m3, c3⟩ := τ
 simp only at hn hf3
 subst hn
 clear hD
 have u0 := hf3 0 (by omega) z0m
 have u1 := hf3 1 (by omega) z1m
 have u2 := hf3 (m + 1) (by omega) (by omega)
 have u3 := hf3 (m + 2) (by omega) (by omega)
 rw [upd_ne _ _ _ _ (by omega), upd_ne _ _ _ _ (by omega), x0] at u0
 rw [upd_ne _ _ _ _ (by omega), upd_ne _ _ _ _ (by omega), x1] at u1
 rw [upd_ne _ _ _ _ (by omega), upd_ne _ _ _ _ (by omega), x2] at u2
 rw [upd_same] at u3
 clear hf hf2 hf3 hd hd2 w0 w1 x0 x1 x2 ho ho1
 try simp (disch := omega) only [go_sem, jA, jB, jC, jD, jE, jF, jG, jH, jI, jJ, ↓reduceIte, reduceCtorEq, jO, jM, jN, jK, jL, u0, u2]
 refine awp_upG [16, 27, 29, 31, 32, 33, 34, 35, 36, 37, 38, 39, 40, 41, 42, 43, 44, 45, 46, 47, 49, 51, 52, 53, 54, 55, 56, 57, 122, 123, 124, 125, 126, 127, 128, 129, 130, 131, 132, 133, 134, 135, 136, 137, 138, 139, 140, 141, 142, 143, 144, 145, 146, 147, 148, 149, 150, 151, 152, 153, 154, 155, 156, 157, 158, 159, 160, 161, 162, 163, 164, 165, 166, 167, 168, 169, 170, 171, 172, 173, 174, 175, 176, 177, 178, 179, 180, 181, 182, 183, 184, 185, 186, 187, 188, 189, 190, 191, 192, 193, 194, 195, 196, 197, 198, 199, 200, 201, 202, 203, 204, 205, 206, 207, 208, 209, 210, 211, 212, 213, 214, 215, 216, 217, 218, 219, 220, 221, 222, 223, 224, 225, 226, 227, 228, 229, 230, 231, 232, 233, 234, 235, 236, 237, 238, 239, 240, 241, 242, 243, 244, 245, 246, 247, 248, 249, 250, 251, 252, 253, 254, 255, 256, 257, 258, 259, 260, 261, 262, 263, 264, 265, 266, 267, 268, 269, 270, 271, 272, 273, 274, 275, 276, 277, 278, 279, 280, 281, 282, 283, 284, 285, 286, 287, 288, 289, 290, 291, 292, 293, 294, 295, 296, 297, 298, 299, 300, 301, 302, 303, 304, 305, 306, 307, 308, 309, 310, 311, 312, 313, 314, 315, 316, 317, 318, 319, 320, 321, 322, 323, 324, 325, 326, 327] (by kernel_rfl) 2 (fun k e σ => e 122 = .int .i64 k ∧ m + 3 ≤ σ.n ∧ σ.ob 1 = some ⟨1, 2, 39, false, true, [.agg [.int .i64 c.k, .int .i64 c.s]]⟩ ∧ σ.ob (m + 2) = some ⟨c2, 2, 39, false, true, [.agg [.int .i64 made.k, .int .i64 made.s]]⟩) ?_ ?_
 ·exact ⟨(by first | rfl | (simp (disch := omega) only [go_sem, jA, jB, jC, jD, jE, jF, jG, jH, jI, jJ, ↓reduceIte, reduceCtorEq, jP, jO, jM, jN]; try rfl)), Nat.le_refl _, u1, u3⟩
 clear u0 u1 u2 u3
 rintro k fe ob q c5 hk3 hq3 ⟨hki, hq1, u1, u3⟩
 simp (maxSteps := 1000000) only [go_sem, jA, jB, jC, jD, jE, jF, jG, jH, jI, jJ, ↓reduceIte, reduceCtorEq, jP] at hki hq3 hq1 u1 u3
 try simp (disch := omega) only [go_sem, jA, jB, jC, jD, jE, jF, jG, jH, jI, jJ, ↓reduceIte, reduceCtorEq, jO, jM, jN, jK, jL, hki]
 refine cond_d (fun hlt2 => ?_) (fun hge => ?_)
 ·have hkl : k < 2 := by omega
  obtain ⟨x, hx1, hgk⟩ : ∃ x : Bo, BoL x ∧ ([.agg [.list 4 (wts raw.ps), .list 1 (lls raw.pa), .list 4 (wns raw.ac)], .agg [.list 4 (wts b.ps), .list 1 (lls b.pa), .list 4 (wns b.ac)]] : List AV)[k]? = some (.agg [.list 4 (wts x.ps), .list 1 (lls x.pa), .list 4 (wns x.ac)]) := by
   rcases (show k = 0 ∨ k = 1 by omega) with rfl | rfl
   ·exact ⟨raw, hr, rfl⟩
   ·exact ⟨b, hbs, rfl⟩
  have hpx : (AV.agg [.list 4 (wts x.ps), .list 1 (lls x.pa), .list 4 (wns x.ac)]).pur = true := by simp [go_sem, wts_pur, lls_pur, wns_pur]
  have pB : ∀ y : Bo, (AV.agg [.list 4 (wts y.ps), .list 1 (lls y.pa), .list 4 (wns y.ac)]).pur = true := fun y => by simp [go_sem, wts_pur, lls_pur, wns_pur]
  have sB : ∀ y : Bo, BoL y → PC prog n_ref36_Same [.agg [.list 4 (wts y.ps), .list 1 (lls y.pa), .list 4 (wns y.ac)], .agg [.list 4 (wts y.ps), .list 1 (lls y.pa), .list 4 (wns y.ac)]] (.bool true) := fun y hy => by
   have := ok_ref36_Same y y hy
   rwa [decide_eq_true rfl] at this
  try simp (disch := omega) only [go_sem, jA, jB, jC, jD, jE, jF, jG, jH, jI, jJ, ↓reduceIte, reduceCtorEq, jO, jM, jN, jK, jL, hki, hgk]
  refine ⟨by omega, by omega, ?_⟩
  refine call_pc (ok_mk_Mod point 3 (by omega) (by omega)) (by simp [go_sem]) ?_
  try simp (disch := omega) only [go_sem, jA, jB, jC, jD, jE, jF, jG, jH, jI, jJ, ↓reduceIte, reduceCtorEq, jO, jM, jN, jK, jL]
  have g1 : ¬ 1 = q := by omega
  have g2 : ¬ m + 2 = q := by omega
  refine awp_upG [16, 29, 31, 32, 33, 34, 35, 36, 37, 38, 39, 40, 41, 42, 43, 44, 45, 46, 47, 131, 132, 133, 134, 135, 136, 137, 138, 139, 140, 141, 142, 143, 144, 145, 146, 147, 148, 149, 150, 151, 152, 153, 154, 155, 156, 157, 158, 159, 160, 161, 162, 163, 164, 165, 166, 167, 168, 169, 170, 171, 172, 173, 174, 175, 176, 177, 178, 179, 180, 181, 182, 183, 184, 185, 186, 187, 188, 189, 190, 191, 192, 193, 194, 195, 196, 197, 198, 199, 200, 201, 202, 203, 204, 205, 206, 207, 208, 209, 210, 211, 212, 213, 214, 215, 216, 217, 218, 219, 220, 221, 222, 223, 224, 225, 226, 227, 228, 229, 230, 231, 232, 233, 234, 235, 236, 237, 238, 239, 240, 241, 242, 243, 244, 245, 246, 247, 248, 249, 250, 251, 252, 253, 254, 255, 256, 257, 258, 259, 260, 261, 262, 263, 264, 265, 266, 267, 268, 269, 270, 271, 272, 273, 274, 275] (by kernel_rfl) 2 (fun j e σ => e 131 = .int .i64 j ∧ q + 1 ≤ σ.n ∧ σ.ob 1 = some ⟨1, 2, 39, false, true, [.agg [.int .i64 c.k, .int .i64 c.s]]⟩ ∧ σ.ob (m + 2) = some ⟨c2, 2, 39, false, true, [.agg [.int .i64 made.k, .int .i64 made.s]]⟩ ∧ σ.ob q = some ⟨c5, 3, 31, false, true, [.agg [.list 4 (wts x.ps), .list 1 (lls x.pa), .list 4 (wns x.ac)]]⟩) ?_ ?_
  ·refine ⟨(by first | rfl | (simp (disch := omega) only [go_sem, jA, jB, jC, jD, jE, jF, jG, jH, jI, jJ, ↓reduceIte, reduceCtorEq, jP, jO, jM, jN]; try rfl)), Nat.le_refl _, ?_, ?_, ?_⟩ <;> try simp (disch := omega) only [go_sem, jA, jB, jC, jD, jE, jF, jG, jH, jI, jJ, ↓reduceIte, reduceCtorEq, jO, jM, jN, jK, jL, g1, g2]
   ·exact u1
   ·exact u3
  clear u1 u3
  rintro j fe2 ob4 q2 c6 hj hq4 ⟨hji, hq5, v1, v2, v3⟩
  simp (maxSteps := 1000000) only [go_sem, jA, jB, jC, jD, jE, jF, jG, jH, jI, jJ, ↓reduceIte, reduceCtorEq, jP] at hji hq4 hq5 v1 v2 v3
  try simp (disch := omega) only [go_sem, jA, jB, jC, jD, jE, jF, jG, jH, jI, jJ, ↓reduceIte, reduceCtorEq, jO, jM, jN, jK, jL, hji]
  refine cond_d (fun hlt3 => ?_) (fun hge3 => ?_)
  ·have hjl : j < 2 := by omega
   obtain ⟨P, hP, hPb⟩ : ∃ P : Int, ([.int .i64 point, .int .i64 (point % 3)] : List AV)[j]? = some (.int .i64 P) ∧ True := by
    rcases (show j = 0 ∨ j = 1 by omega) with rfl | rfl
    ·exact ⟨point, rfl, trivial⟩
    ·exact ⟨_, rfl, trivial⟩
   try simp (disch := omega) only [go_sem, jA, jB, jC, jD, jE, jF, jG, jH, jI, jJ, ↓reduceIte, reduceCtorEq, jO, jM, jN, jK, jL, hji, hP, v1, v2]
   refine ⟨by omega, by omega, ?_⟩
   refine awp_upG [16, 31, 32, 33, 34, 35, 36, 37, 38, 39, 139, 140, 141, 142, 143, 144, 145, 146, 147, 148, 149, 150, 151, 152, 153, 154, 155, 156, 157, 158, 159, 160, 161, 162, 163, 164, 165, 166, 167, 168, 169, 170, 171, 172, 173, 174, 175, 176, 177, 178, 179, 180, 181, 182, 183, 184, 185, 186, 187, 188, 189, 190, 191, 192, 193, 194, 195, 196, 197, 198, 199, 200, 201, 202, 203, 204, 205, 206, 207, 208, 209, 210, 211, 212, 213, 214, 215, 216, 217, 218, 219, 220] (by kernel_rfl) 2 (fun i e σ => e 139 = .int .i64 i ∧ q2 ≤ σ.n ∧ σ.ob 1 = some ⟨1, 2, 39, false, true, [.agg [.int .i64 c.k, .int .i64 c.s]]⟩ ∧ σ.ob (m + 2) = some ⟨c2, 2, 39, false, true, [.agg [.int .i64 made.k, .int .i64 made.s]]⟩ ∧ σ.ob q = some ⟨c5, 3, 31, false, true, [.agg [.list 4 (wts x.ps), .list 1 (lls x.pa), .list 4 (wns x.ac)]]⟩) ?_ ?_
   ·exact ⟨(by first | rfl | (simp (disch := omega) only [go_sem, jA, jB, jC, jD, jE, jF, jG, jH, jI, jJ, ↓reduceIte, reduceCtorEq, jP, jO, jM, jN]; try rfl)), Nat.le_refl _, v1, v2, v3⟩
   clear v1 v2 v3
   rintro i fe3 ob5 q3 c7 hi hq6 ⟨hii, hq7, v1, v2, v3⟩
   simp (maxSteps := 1000000) only [go_sem, jA, jB, jC, jD, jE, jF, jG, jH, jI, jJ, ↓reduceIte, reduceCtorEq, jP] at hii hq6 hq7 v1 v2 v3
   try simp (disch := omega) only [go_sem, jA, jB, jC, jD, jE, jF, jG, jH, jI, jJ, ↓reduceIte, reduceCtorEq, jO, jM, jN, jK, jL, hii]
   refine cond_d (fun hlt4 => ?_) (fun hge4 => ?_)
   ·have hil : i < 2 := by omega
    obtain ⟨y, hy⟩ : ∃ y : Cs, ([.agg [.int .i64 c.k, .int .i64 c.s], .agg [.int .i64 made.k, .int .i64 made.s]] : List AV)[i]? = some (.agg [.int .i64 y.k, .int .i64 y.s]) := by
     rcases (show i = 0 ∨ i = 1 by omega) with rfl | rfl
     ·exact ⟨c, rfl⟩
     ·exact ⟨made, rfl⟩
    have a1 := fun t => ok_cause_Issue x P t y hx1
    have a2 := fun t => ok_ref37_Issue x P t y hx1
    have a3 := ok_cause_End x P y hx1
    have a4 := ok_ref37_End x P y hx1
    simp only [issV, endV, bov, csv] at a1 a2 a3 a4
    have s1 := fun t => sB _ (iss_sz x P t y)
    have s2 := sB _ (end_sz x P y)
    have k1 : ¬ q = q3 := by omega
    have k2 : ¬ q3 = q3 + 1 := by omega
    have k3 : ¬ q3 = q3 + 2 := by omega
    have k4 : ¬ q = q3 + 1 := by omega
    have k5 : ¬ q = q3 + 2 := by omega
    try simp (disch := omega) only [go_sem, jA, jB, jC, jD, jE, jF, jG, jH, jI, jJ, ↓reduceIte, reduceCtorEq, jO, jM, jN, jK, jL, hii, hy, v3, k1]
    refine ⟨by omega, by omega, ?_⟩
    refine call_pc (a1 time) (by simp [pB, go_sem]) ?_
    try simp (disch := omega) only [go_sem, jA, jB, jC, jD, jE, jF, jG, jH, jI, jJ, ↓reduceIte, reduceCtorEq, jO, jM, jN, jK, jL, v3, k1, k2, k3, k4, k5]
    refine call_pc (a2 time) (by simp [pB, go_sem]) ?_
    try simp (disch := omega) only [go_sem, jA, jB, jC, jD, jE, jF, jG, jH, jI, jJ, ↓reduceIte, reduceCtorEq, jO, jM, jN, jK, jL, v3, k1, k2, k3, k4, k5]
    refine call_pc (s1 time) (by simp [pB, go_sem]) ?_
    try simp (disch := omega) only [go_sem, jA, jB, jC, jD, jE, jF, jG, jH, jI, jJ, ↓reduceIte, reduceCtorEq, jO, jM, jN, jK, jL]
    have hm50 := ok_mk_Mod time 50 (by omega) (by omega)
    try simp (disch := omega) only [go_sem, jA, jB, jC, jD, jE, jF, jG, jH, jI, jJ, ↓reduceIte, reduceCtorEq, jO, jM, jN, jK, jL, v3, k1, k2, k3, k4, k5]
    refine call_pc hm50 (by simp [go_sem]) ?_
    try simp (disch := omega) only [go_sem, jA, jB, jC, jD, jE, jF, jG, jH, jI, jJ, ↓reduceIte, reduceCtorEq, jO, jM, jN, jK, jL, v3, k1, k2, k3, k4, k5]
    refine call_pc (a1 (time % 50)) (by simp [pB, go_sem]) ?_
    try simp (disch := omega) only [go_sem, jA, jB, jC, jD, jE, jF, jG, jH, jI, jJ, ↓reduceIte, reduceCtorEq, jO, jM, jN, jK, jL, v3, k1, k2, k3, k4, k5]
    refine call_pc hm50 (by simp [go_sem]) ?_
    try simp (disch := omega) only [go_sem, jA, jB, jC, jD, jE, jF, jG, jH, jI, jJ, ↓reduceIte, reduceCtorEq, jO, jM, jN, jK, jL, v3, k1, k2, k3, k4, k5]
    refine call_pc (a2 (time % 50)) (by simp [pB, go_sem]) ?_
    try simp (disch := omega) only [go_sem, jA, jB, jC, jD, jE, jF, jG, jH, jI, jJ, ↓reduceIte, reduceCtorEq, jO, jM, jN, jK, jL, v3, k1, k2, k3, k4, k5]
    refine call_pc a3 (by simp [pB, go_sem]) ?_
    try simp (disch := omega) only [go_sem, jA, jB, jC, jD, jE, jF, jG, jH, jI, jJ, ↓reduceIte, reduceCtorEq, jO, jM, jN, jK, jL, v3, k1, k2, k3, k4, k5]
    refine call_pc a4 (by simp [pB, go_sem]) ?_
    try simp (disch := omega) only [go_sem, jA, jB, jC, jD, jE, jF, jG, jH, jI, jJ, ↓reduceIte, reduceCtorEq, jO, jM, jN, jK, jL, v3, k1, k2, k3, k4, k5]
    refine call_pc (s1 (time % 50)) (by simp [pB, go_sem]) ?_
    try simp (disch := omega) only [go_sem, jA, jB, jC, jD, jE, jF, jG, jH, jI, jJ, ↓reduceIte, reduceCtorEq, jO, jM, jN, jK, jL, v3, k1, k2, k3, k4, k5]
    refine call_pc s2 (by simp [pB, go_sem]) ?_
    try simp (disch := omega) only [go_sem, jA, jB, jC, jD, jE, jF, jG, jH, jI, jJ, ↓reduceIte, reduceCtorEq, jO, jM, jN, jK, jL, hii]
    refine up_nextG (q3 + 1 + 1 + 1 + 1 + 1) hil (by omega) ⟨(by first | rfl | (simp (disch := omega) only [go_sem, jA, jB, jC, jD, jE, jF, jG, jH, jI, jJ, ↓reduceIte, reduceCtorEq, jP, jO, jM, jN]; try rfl)), by simp only [St.trunc]; omega, ?_, ?_, ?_⟩
    ·rw [tr_ob (by omega)]; repeat rw [upd_ne _ _ _ _ (by omega)]
     exact v1
    ·rw [tr_ob (by omega)]; repeat rw [upd_ne _ _ _ _ (by omega)]
     exact v2
    ·rw [tr_ob (by omega)]; repeat rw [upd_ne _ _ _ _ (by omega)]
     exact v3
   clear hge4 hii hi
   have hkl2 : (css keep).length ≤ 8796093021952 := by rw [css_length]; exact hk
   try simp (disch := omega) only [go_sem, jA, jB, jC, jD, jE, jF, jG, jH, jI, jJ, ↓reduceIte, reduceCtorEq, jO, jM, jN, jK, jL, v2, v3]
   refine app_slrs (M := css keep) (b := 16) SlR.nil (by simp; omega) (by simp; omega) fun K τ hK kK => ?_
   obtain ⟨ob6, q4, c8⟩ := τ
   simp only [List.nil_append] at hK
   have f1 : q3 ≤ q4 := kK.1
   have f2 : ∀ i, i < q3 → ob6 i = ob5 i := fun i hi => kK.2.1 i hi (Oth.nil i)
   have w1 := (f2 1 (by omega)).trans v1
   have w2 := (f2 (m + 2) (by omega)).trans v2
   have w3 := (f2 q (by omega)).trans v3
   have e1 : css keep ++ [.agg [.int .i64 made.k, .int .i64 made.s]] = css (keep ++ [made]) := by rw [css_app]; rfl
   have hln : (keep ++ [made]).length ≤ 9223372036854775807 := by simp; omega
   have a5 := ok_cause_Keep x P (keep ++ [made]) hx1 hln
   have a6 := ok_ref37_Keep x P (keep ++ [made]) hx1 hln
   have a7 := ok_cause_Causes x P hx1
   have a8 := ok_ref37_Causes x P hx1
   have s3 := sB _ (keep_sz x P (keep ++ [made]))
   have s4 := ok_ref36_SameCauses ((actO x P).getD wnZ).cs ((actO x P).getD wnZ).cs (act_len x P hx1)
   rw [decide_eq_true rfl] at s4
   simp only [keepV, bov] at a5 a6 a7 a8
   generalize keepR x P (keep ++ [made]) = kr at *
   generalize keepE x P = ke at *
   generalize ((actO x P).getD wnZ).cs = lc at *
   generalize (actO x P).isSome = wc at *
   have oK : ∀ i, i < q3 → Oth K i := fun i hi => kK.2.2 i hi (Oth.nil i)
   try simp (disch := omega) only [go_sem, jA, jB, jC, jD, jE, jF, jG, jH, jI, jJ, ↓reduceIte, reduceCtorEq, jO, jM, jN, jK, jL, w1, w2, w3, v2, v3]
   refine app_slr (L := css keep) (b := 16) hK (by omega) (by omega) fun K2 τ hK2 kK2 => ?_
   obtain ⟨ob7, q5, c9⟩ := τ
   have f3 : q4 ≤ q5 := kK2.1
   have f4 : ∀ i, i < q3 → ob7 i = ob6 i := fun i hi => kK2.2.1 i (by simp only; omega) (oK i hi)
   have x1 := (f4 1 (by omega)).trans w1
   have x2 := (f4 (m + 2) (by omega)).trans w2
   have x3 := (f4 q (by omega)).trans w3
   rw [e1] at hK2
   try simp (disch := omega) only [go_sem, jA, jB, jC, jD, jE, jF, jG, jH, jI, jJ, ↓reduceIte, reduceCtorEq, jO, jM, jN, jK, jL, w1, w2, w3, v2, v3, x1, x2, x3]
   have oK2 : ∀ i, i < q3 → Oth K2 i := fun i hi => kK2.2.2 i (by simp only; omega) (oK i hi)
   rcases hK2 with ⟨_, h0⟩ | ⟨ik, gk, rfl, hik, hok⟩
   ·have : (css (keep ++ [made])).length = 0 := by rw [h0]; rfl
    simp [css_length] at this
   have hpar : ∀ a ∈ [AV.agg [.list 4 (wts x.ps), .list 1 (lls x.pa), .list 4 (wns x.ac)], .int .i64 P, .list 2 (css (keep ++ [made]))], a.pur = true := by simp [pB, css_pur, go_sem]
   refine call_rodK ik _ hok a5 (.cons (.pure (pB x)) (.cons (.pure rfl) (.cons (Pub.of_sl (by simp only; rw [if_neg (by simp)]; exact hok) rfl (css_pur _) (css_ok _)) .nil))) hpar fun obz hne hikz => ?_
   simp only at hne hikz
   replace x1 := (hne 1 fun e => (oK2 1 (by omega)).ne e.symm).trans x1
   replace x2 := (hne (m + 2) fun e => (oK2 (m + 2) (by omega)).ne e.symm).trans x2
   replace x3 := (hne q fun e => (oK2 q (by omega)).ne e.symm).trans x3
   clear hne hikz
   have k1 : ¬ q = q5 := by omega
   have k2 : ¬ m + 2 = q5 := by omega
   have k3 : ¬ 1 = q5 := by omega
   try simp (disch := omega) only [go_sem, jA, jB, jC, jD, jE, jF, jG, jH, jI, jJ, ↓reduceIte, reduceCtorEq, jO, jM, jN, jK, jL, x1, x2, x3, k1, k2, k3]
   obtain ⟨ob8, hob8⟩ : ∃ ob8, ob8 = upd (upd obz q5 (some ⟨c9, 3, 31, false, true, [.agg [.nil, .nil, .nil]]⟩)) q5 (some ⟨c9, 3, 31, false, true, [.agg [.list 4 (wts kr.ps), .list 1 (lls kr.pa), .list 4 (wns kr.ac)]]⟩) := ⟨_, rfl⟩
   have y1 : ob8 1 = some ⟨1, 2, 39, false, true, [.agg [.int .i64 c.k, .int .i64 c.s]]⟩ := by rw [hob8, upd_ne _ _ _ _ k3, upd_ne _ _ _ _ k3]; exact x1
   have y2 : ob8 (m + 2) = some ⟨c2, 2, 39, false, true, [.agg [.int .i64 made.k, .int .i64 made.s]]⟩ := by rw [hob8, upd_ne _ _ _ _ k2, upd_ne _ _ _ _ k2]; exact x2
   have y3 : ob8 q = some ⟨c5, 3, 31, false, true, [.agg [.list 4 (wts x.ps), .list 1 (lls x.pa), .list 4 (wns x.ac)]]⟩ := by rw [hob8, upd_ne _ _ _ _ k1, upd_ne _ _ _ _ k1]; exact x3
   have y4 : ob8 q5 = some ⟨c9, 3, 31, false, true, [.agg [.list 4 (wts kr.ps), .list 1 (lls kr.pa), .list 4 (wns kr.ac)]]⟩ := by rw [hob8, upd_same]
   rw [← hob8]
   clear hob8
   refine app_slrs (M := css keep) (b := 16) SlR.nil (by simp; omega) (by simp; omega) fun G τ hG kG => ?_
   obtain ⟨ob9, q6, d1⟩ := τ
   simp only [List.nil_append] at hG
   have f5 : q5 + 1 ≤ q6 := kG.1
   have f6 : ∀ i, i < q5 + 1 → ob9 i = ob8 i := fun i hi => kG.2.1 i hi (Oth.nil i)
   have z1 := (f6 1 (by omega)).trans y1
   have z2 := (f6 (m + 2) (by omega)).trans y2
   have z3 := (f6 q (by omega)).trans y3
   have z4 := (f6 q5 (by omega)).trans y4
   have oG : ∀ i, i < q5 + 1 → Oth G i := fun i hi => kG.2.2 i hi (Oth.nil i)
   try simp (disch := omega) only [go_sem, jA, jB, jC, jD, jE, jF, jG, jH, jI, jJ, ↓reduceIte, reduceCtorEq, jO, jM, jN, jK, jL, y1, y2, y3, z1, z2, z3]
   refine app_slr (L := css keep) (b := 16) hG (by omega) (by omega) fun G2 τ hG2 kG2 => ?_
   obtain ⟨oba, q7, d2⟩ := τ
   have f7 : q6 ≤ q7 := kG2.1
   have f8 : ∀ i, i < q5 + 1 → oba i = ob9 i := fun i hi => kG2.2.1 i (by simp only; omega) (oG i hi)
   have r1 := (f8 1 (by omega)).trans z1
   have r2 := (f8 (m + 2) (by omega)).trans z2
   have r3 := (f8 q (by omega)).trans z3
   have r4 := (f8 q5 (by omega)).trans z4
   rw [e1] at hG2
   try simp (disch := omega) only [go_sem, jA, jB, jC, jD, jE, jF, jG, jH, jI, jJ, ↓reduceIte, reduceCtorEq, jO, jM, jN, jK, jL, y1, y2, y3, z1, z2, z3, r1, r2, r3]
   have oG2 : ∀ i, i < q5 + 1 → Oth G2 i := fun i hi => kG2.2.2 i (by simp only; omega) (oG i hi)
   rcases hG2 with ⟨_, h0⟩ | ⟨ig, gg, rfl, hig, hog⟩
   ·have : (css (keep ++ [made])).length = 0 := by rw [h0]; rfl
    simp [css_length] at this
   refine call_rodK ig _ hog a6 (.cons (.pure (pB x)) (.cons (.pure rfl) (.cons (Pub.of_sl (by simp only; rw [if_neg (by simp)]; exact hog) rfl (css_pur _) (css_ok _)) .nil))) hpar fun oby hne higz => ?_
   simp only at hne higz
   replace r1 := (hne 1 fun e => (oG2 1 (by omega)).ne e.symm).trans r1
   replace r2 := (hne (m + 2) fun e => (oG2 (m + 2) (by omega)).ne e.symm).trans r2
   replace r3 := (hne q fun e => (oG2 q (by omega)).ne e.symm).trans r3
   replace r4 := (hne q5 fun e => (oG2 q5 (by omega)).ne e.symm).trans r4
   clear hne higz
   have k4 : ¬ q = q7 := by omega
   have k5 : ¬ q5 = q7 := by omega
   try simp (disch := omega) only [go_sem, jA, jB, jC, jD, jE, jF, jG, jH, jI, jJ, ↓reduceIte, reduceCtorEq, jO, jM, jN, jK, jL, r1, r2, r3, r4, k4, k5]
   refine call_pc a7 (by simp [pB, go_sem]) ?_
   try simp (disch := omega) only [go_sem, jA, jB, jC, jD, jE, jF, jG, jH, jI, jJ, ↓reduceIte, reduceCtorEq, jO, jM, jN, jK, jL, r1, r2, r3, r4, k4, k5]
   refine call_pc a8 (by simp [pB, go_sem]) ?_
   try simp (disch := omega) only [go_sem, jA, jB, jC, jD, jE, jF, jG, jH, jI, jJ, ↓reduceIte, reduceCtorEq, jO, jM, jN, jK, jL, r1, r2, r3, r4, k4, k5]
   refine call_pc s3 (by simp [pB, go_sem]) ?_
   try simp (disch := omega) only [go_sem, jA, jB, jC, jD, jE, jF, jG, jH, jI, jJ, ↓reduceIte, reduceCtorEq, jO, jM, jN, jK, jL, r1, r2, r3, r4, k4, k5]
   refine call_pc s4 (by simp [css_pur, go_sem]) ?_
   try simp (disch := omega) only [go_sem, jA, jB, jC, jD, jE, jF, jG, jH, jI, jJ, ↓reduceIte, reduceCtorEq, jO, jM, jN, jK, jL, hji]
   refine up_nextG (q7 + 1) hjl (by omega) ⟨(by first | rfl | (simp (disch := omega) only [go_sem, jA, jB, jC, jD, jE, jF, jG, jH, jI, jJ, ↓reduceIte, reduceCtorEq, jP, jO, jM, jN]; try rfl)), by simp only [St.trunc]; omega, ?_, ?_, ?_⟩
   ·rw [tr_ob (by omega), upd_ne _ _ _ _ (by omega), upd_ne _ _ _ _ (by omega)]; exact r1
   ·rw [tr_ob (by omega), upd_ne _ _ _ _ (by omega), upd_ne _ _ _ _ (by omega)]; exact r2
   ·rw [tr_ob (by omega), upd_ne _ _ _ _ (by omega), upd_ne _ _ _ _ (by omega)]; exact r3
  clear hge3 hji hj
  try simp (disch := omega) only [go_sem, jA, jB, jC, jD, jE, jF, jG, jH, jI, jJ, ↓reduceIte, reduceCtorEq, jO, jM, jN, jK, jL]
  refine awp_upG [16, 49, 51, 52, 53, 54, 55, 56, 57, 280, 281, 282, 283, 284, 285, 286, 287, 288, 289, 290, 291, 292, 293, 294, 295, 296, 297, 298, 299, 300, 301, 302, 303, 304, 305, 306, 307, 308, 309, 310, 311, 312, 313, 314, 315, 316, 317, 318, 319, 320, 321, 322, 323, 324, 325, 326] (by kernel_rfl) 2 (fun j e σ => e 280 = .int .i64 j ∧ q2 ≤ σ.n ∧ σ.ob 1 = some ⟨1, 2, 39, false, true, [.agg [.int .i64 c.k, .int .i64 c.s]]⟩ ∧ σ.ob (m + 2) = some ⟨c2, 2, 39, false, true, [.agg [.int .i64 made.k, .int .i64 made.s]]⟩ ∧ σ.ob q = some ⟨c5, 3, 31, false, true, [.agg [.list 4 (wts x.ps), .list 1 (lls x.pa), .list 4 (wns x.ac)]]⟩) ?_ ?_
  ·exact ⟨(by first | rfl | (simp (disch := omega) only [go_sem, jA, jB, jC, jD, jE, jF, jG, jH, jI, jJ, ↓reduceIte, reduceCtorEq, jP, jO, jM, jN]; try rfl)), by simp, v1, v2, v3⟩
  clear v1 v2 v3
  rintro j fe2 ob4 q3 c6 hj hq6 ⟨hji, hq7, v1, v2, v3⟩
  simp (maxSteps := 1000000) only [go_sem, jA, jB, jC, jD, jE, jF, jG, jH, jI, jJ, ↓reduceIte, reduceCtorEq, jP] at hji hq6 hq7 v1 v2 v3
  try simp (disch := omega) only [go_sem, jA, jB, jC, jD, jE, jF, jG, jH, jI, jJ, ↓reduceIte, reduceCtorEq, jO, jM, jN, jK, jL, hji]
  refine cond_d (fun hlt3 => ?_) (fun hge3 => ?_)
  ·have hjl : j < 2 := by omega
   obtain ⟨Q, hQ, hQl⟩ : ∃ Q : List Bool, ([.list 1 (bls quiet), .list 1 (bls calm)] : List AV)[j]? = some (.list 1 (bls Q)) ∧ Q.length ≤ 9223372036854775807 := by
    rcases (show j = 0 ∨ j = 1 by omega) with rfl | rfl
    ·exact ⟨quiet, rfl, hq⟩
    ·exact ⟨calm, rfl, by omega⟩
   try simp (disch := omega) only [go_sem, jA, jB, jC, jD, jE, jF, jG, jH, jI, jJ, ↓reduceIte, reduceCtorEq, jO, jM, jN, jK, jL, hji, hQ]
   refine ⟨by omega, by omega, ?_⟩
   refine call_pc (ok_mk_Mod hold 4 (by omega) (by omega)) (by simp [go_sem]) ?_
   try simp (disch := omega) only [go_sem, jA, jB, jC, jD, jE, jF, jG, jH, jI, jJ, ↓reduceIte, reduceCtorEq, jO, jM, jN, jK, jL]
   refine awp_upG [16, 51, 52, 53, 54, 55, 56, 57, 290, 291, 292, 293, 294, 295, 296, 297, 298, 299, 300, 301, 302, 303, 304, 305, 306, 307, 308, 309, 310, 311, 312, 313, 314, 315, 316, 317, 318, 319, 320, 321, 322, 323, 324, 325] (by kernel_rfl) 2 (fun i e σ => e 290 = .int .i64 i ∧ q3 ≤ σ.n ∧ σ.ob 1 = some ⟨1, 2, 39, false, true, [.agg [.int .i64 c.k, .int .i64 c.s]]⟩ ∧ σ.ob (m + 2) = some ⟨c2, 2, 39, false, true, [.agg [.int .i64 made.k, .int .i64 made.s]]⟩ ∧ σ.ob q = some ⟨c5, 3, 31, false, true, [.agg [.list 4 (wts x.ps), .list 1 (lls x.pa), .list 4 (wns x.ac)]]⟩) ?_ ?_
   ·exact ⟨(by first | rfl | (simp (disch := omega) only [go_sem, jA, jB, jC, jD, jE, jF, jG, jH, jI, jJ, ↓reduceIte, reduceCtorEq, jP, jO, jM, jN]; try rfl)), Nat.le_refl _, v1, v2, v3⟩
   clear v1 v2 v3
   rintro i fe3 ob5 q4 c7 hi hq8 ⟨hii, hq9, v1, v2, v3⟩
   simp (maxSteps := 1000000) only [go_sem, jA, jB, jC, jD, jE, jF, jG, jH, jI, jJ, ↓reduceIte, reduceCtorEq, jP] at hii hq8 hq9 v1 v2 v3
   try simp (disch := omega) only [go_sem, jA, jB, jC, jD, jE, jF, jG, jH, jI, jJ, ↓reduceIte, reduceCtorEq, jO, jM, jN, jK, jL, hii]
   refine cond_d (fun hlt4 => ?_) (fun hge4 => ?_)
   ·have hil : i < 2 := by omega
    obtain ⟨H, hH⟩ : ∃ H : Int, ([.int .i64 hold, .int .i64 (1 + hold % 4)] : List AV)[i]? = some (.int .i64 H) := by
     rcases (show i = 0 ∨ i = 1 by omega) with rfl | rfl
     ·exact ⟨_, rfl⟩
     ·exact ⟨_, rfl⟩
    have a1 := ok_cause_Tick x Q H hx1 hQl
    have a2 := ok_ref37_Tick x Q H hx1 hQl
    have s1 := sB _ (tick_sz x Q H)
    have s2 := ok_law37_ints _ (tickR x Q H).2 (tick_len x Q H hx1)
    rw [decide_eq_true rfl] at s2
    simp only [tickV, bov] at a1 a2
    generalize (tickR x Q H).1 = tr at *
    generalize (tickR x Q H).2 = tg at *
    generalize tickE x Q H = te at *
    have k1 : ¬ q = q4 := by omega
    have k2 : ¬ q4 = q4 + 1 := by omega
    try simp (disch := omega) only [go_sem, jA, jB, jC, jD, jE, jF, jG, jH, jI, jJ, ↓reduceIte, reduceCtorEq, jO, jM, jN, jK, jL, hii, hH, v3, k1]
    refine ⟨by omega, by omega, ?_⟩
    refine call_pc a1 (by simp [pB, bls_pur, go_sem]) ?_
    try simp (disch := omega) only [go_sem, jA, jB, jC, jD, jE, jF, jG, jH, jI, jJ, ↓reduceIte, reduceCtorEq, jO, jM, jN, jK, jL, v3, k1, k2]
    refine call_pc a2 (by simp [pB, bls_pur, go_sem]) ?_
    try simp (disch := omega) only [go_sem, jA, jB, jC, jD, jE, jF, jG, jH, jI, jJ, ↓reduceIte, reduceCtorEq, jO, jM, jN, jK, jL, v3, k1, k2]
    refine call_pc s2 (by simp [ints_pur, go_sem]) ?_
    try simp (disch := omega) only [go_sem, jA, jB, jC, jD, jE, jF, jG, jH, jI, jJ, ↓reduceIte, reduceCtorEq, jO, jM, jN, jK, jL, v3, k1, k2]
    refine call_pc s1 (by simp [pB, go_sem]) ?_
    try simp (disch := omega) only [go_sem, jA, jB, jC, jD, jE, jF, jG, jH, jI, jJ, ↓reduceIte, reduceCtorEq, jO, jM, jN, jK, jL, hii]
    refine up_nextG (q4 + 1 + 1) hil (by omega) ⟨(by first | rfl | (simp (disch := omega) only [go_sem, jA, jB, jC, jD, jE, jF, jG, jH, jI, jJ, ↓reduceIte, reduceCtorEq, jP, jO, jM, jN]; try rfl)), by simp only [St.trunc]; omega, ?_, ?_, ?_⟩
    ·rw [tr_ob (by omega)]; repeat rw [upd_ne _ _ _ _ (by omega)]
     exact v1
    ·rw [tr_ob (by omega)]; repeat rw [upd_ne _ _ _ _ (by omega)]
     exact v2
    ·rw [tr_ob (by omega)]; repeat rw [upd_ne _ _ _ _ (by omega)]
     exact v3
   clear hge4 hii hi
   try simp (disch := omega) only [go_sem, jA, jB, jC, jD, jE, jF, jG, jH, jI, jJ, ↓reduceIte, reduceCtorEq, jO, jM, jN, jK, jL, hji]
   exact up_nextG q4 hjl (by omega) ⟨(by first | rfl | (simp (disch := omega) only [go_sem, jA, jB, jC, jD, jE, jF, jG, jH, jI, jJ, ↓reduceIte, reduceCtorEq, jP, jO, jM, jN]; try rfl)), by simp only [St.trunc]; omega, by rw [tr_ob (by omega)]; exact v1, by rw [tr_ob (by omega)]; exact v2, by rw [tr_ob (by omega)]; exact v3⟩
  clear hge3 hji hj
  try simp (disch := omega) only [go_sem, jA, jB, jC, jD, jE, jF, jG, jH, jI, jJ, ↓reduceIte, reduceCtorEq, jO, jM, jN, jK, jL, hki]
  exact up_nextG q3 hkl (by omega) ⟨(by first | rfl | (simp (disch := omega) only [go_sem, jA, jB, jC, jD, jE, jF, jG, jH, jI, jJ, ↓reduceIte, reduceCtorEq, jP, jO, jM, jN]; try rfl)), by simp only [St.trunc]; omega, by rw [tr_ob (by omega)]; exact v1, by rw [tr_ob (by omega)]; exact v2⟩
 ·try simp (disch := omega) only [go_sem, jA, jB, jC, jD, jE, jF, jG, jH, jI, jJ, ↓reduceIte, reduceCtorEq, jO, jM, jN, jK, jL]
  exact Pub.pure rfl
abbrev shI : Sh := .int .i64
abbrev shWt : Sh := .struct (.fc shI (.fc shI (.fc shI (.fc shI .f0))))
abbrev shCs : Sh := .struct (.fc shI (.fc shI .f0))
abbrev shWn : Sh := .struct (.fc shI (.fc shI (.fc (.slice 2 shCs) (.fc shI .f0))))
abbrev shLls : Sh := .slice 1 (.slice 1 shI)
abbrev shBo : Sh := .struct (.fc (.slice 4 shWt) (.fc shLls (.fc (.slice 4 shWn) .f0)))
theorem shCsR {c : List AV} (h : shCs.R c) : ∃ b : Cs, shCs.mk1 c = csv b := by
 obtain ⟨x, y, rfl, ⟨a, rfl, _⟩, z, w, rfl, ⟨b, rfl, _⟩, rfl⟩ := h
 exact ⟨⟨a, b⟩, rfl⟩
theorem shCssR {c : List AV} (h : (Sh.slice 2 shCs).R c) : ∃ L : List Cs, c = [.list 2 (css L)] ∧ L.length ≤ 9223372036854775807 := by
 obtain ⟨xs, rfl, hl, h⟩ := h
 obtain ⟨L, rfl, hL⟩ := exists_map (f := csv) (Q := fun _ => True) fun x hx => by
  obtain ⟨cs, hr, _, rfl⟩ := h x hx
  obtain ⟨b, hb⟩ := shCsR hr
  exact ⟨b, trivial, hb⟩
 exact ⟨L, rfl, by simpa using hl⟩
theorem shWtR {c : List AV} (h : shWt.R c) : ∃ b : Wt, shWt.mk1 c = wtv b := by
 obtain ⟨x1, y1, rfl, ⟨a, rfl, _⟩, x2, y2, rfl, ⟨b, rfl, _⟩, x3, y3, rfl, ⟨d, rfl, _⟩, x4, y4, rfl, ⟨e, rfl, _⟩, rfl⟩ := h
 exact ⟨⟨a, b, d, e⟩, rfl⟩
theorem shWtsR {c : List AV} (h : (Sh.slice 4 shWt).R c) : ∃ L : List Wt, c = [.list 4 (wts L)] ∧ L.length ≤ 9223372036854775807 := by
 obtain ⟨xs, rfl, hl, h⟩ := h
 obtain ⟨L, rfl, hL⟩ := exists_map (f := wtv) (Q := fun _ => True) fun x hx => by
  obtain ⟨cs, hr, _, rfl⟩ := h x hx
  obtain ⟨b, hb⟩ := shWtR hr
  exact ⟨b, trivial, hb⟩
 exact ⟨L, rfl, by simpa using hl⟩
theorem shWnR {c : List AV} (h : shWn.R c) : ∃ b : Wn, b.cs.length ≤ 9223372036854775807 ∧ shWn.mk1 c = wnv b := by
 obtain ⟨x1, y1, rfl, ⟨a, rfl, _⟩, x2, y2, rfl, ⟨b, rfl, _⟩, x3, y3, rfl, h3, x4, y4, rfl, ⟨e, rfl, _⟩, rfl⟩ := h
 obtain ⟨L, rfl, hL⟩ := shCssR h3
 exact ⟨⟨a, b, L, e⟩, hL, rfl⟩
theorem shWnsR {c : List AV} (h : (Sh.slice 4 shWn).R c) : ∃ L : List Wn, c = [.list 4 (wns L)] ∧ L.length ≤ 9223372036854775807 ∧ ∀ w ∈ L, w.cs.length ≤ 9223372036854775807 := by
 obtain ⟨xs, rfl, hl, h⟩ := h
 obtain ⟨L, rfl, hL⟩ := exists_map (f := wnv) (Q := fun w => w.cs.length ≤ 9223372036854775807) fun x hx => by
  obtain ⟨cs, hr, _, rfl⟩ := h x hx
  obtain ⟨b, hb1, hb⟩ := shWnR hr
  exact ⟨b, hb1, hb⟩
 exact ⟨L, rfl, by simpa using hl, hL⟩
theorem shLlsR {c : List AV} (h : shLls.R c) : ∃ L : List (List Int), c = [.list 1 (lls L)] ∧ L.length ≤ 9223372036854775807 ∧ ∀ l ∈ L, l.length ≤ 9223372036854775807 := by
 obtain ⟨xs, rfl, hl, h⟩ := h
 obtain ⟨L, rfl, hL⟩ := exists_map (f := fun l => AV.list 1 (ints l)) (Q := fun w => w.length ≤ 9223372036854775807) fun x hx => by
  obtain ⟨cs, hr, _, rfl⟩ := h x hx
  obtain ⟨l, rfl, hl, _⟩ := shInts hr
  exact ⟨l, hl, rfl⟩
 exact ⟨L, rfl, by simpa using hl, hL⟩
theorem shBoR {c : List AV} (h : shBo.R c) : ∃ b : Bo, shBo.mk1 c = bov b ∧ BoL b := by
 obtain ⟨x1, y1, rfl, h1, x2, y2, rfl, h2, x3, y3, rfl, h3, rfl⟩ := h
 obtain ⟨L1, rfl, l1⟩ := shWtsR h1
 obtain ⟨L2, rfl, l2, m2⟩ := shLlsR h2
 obtain ⟨L3, rfl, l3, m3⟩ := shWnsR h3
 exact ⟨⟨L1, L2, L3⟩, rfl, l1, l2, m2, l3, m3⟩
theorem VP_list_inv {S : Nat → Prop} {w : World} {es : Nat} {xs : List AV} {v : Value} (h : VP S w (.list es xs) v) : ∃ a c, v = .slice a xs.length c := by
 cases h with
 | listNil => exact ⟨_, _, rfl⟩
 | list => exact ⟨_, _, rfl⟩
theorem Sh.argL {H : Type} {enc : TypeId × Value → H} {P : Program} {w : World} {base : Nat} {spare : Nat → Bool} {held : Bool} {es : Nat} {s : Sh} {t e : TypeId} {r : Reach} {b0 : Nat} {v : Value} {d : DataW H} {ps : List MemPlace} {B M : Nat}
  (hok : (Sh.slice es s).ok P t [] 0 0 = true) (ht : P.underlying t = some (.slice e)) (hval : Value.okWide P w r b0 t v) (hd : DataW.Trod enc P w base spare held t v d ps)
  (hz : ∀ elems rest : List (DataW H), d = .slice elems rest → (elems.length + rest.length) * B ≤ M) :
  ∃ cs, (Sh.slice es s).R cs ∧ VP (fun b => b < w.heap.size) w ((Sh.slice es s).mk1 cs) v ∧ ∀ xs, cs = [.list es xs] → xs.length * B ≤ M := by
 obtain ⟨cs, hr, hv⟩ := Sh.arg hok rfl hval hd
 refine ⟨cs, hr, hv, fun xs hxs => ?_⟩
 subst hxs
 obtain ⟨a, c, rfl⟩ := VP_list_inv hv
 obtain ⟨fuel, hf⟩ := hd
 rcases DataW.trod_slice ht hf with ⟨h1, _⟩ | ⟨a', len, cap, elems, rest, n, _, h1, h2, _, _, _, hel, _⟩
 ·simp only [Value.cells, List.cons.injEq, and_true, Value.slice.injEq] at h1
  rw [h1.2.1, Nat.zero_mul]; exact Nat.zero_le _
 ·simp only [Value.cells, List.cons.injEq, and_true, Value.slice.injEq] at h1
  have h3 := hz _ _ (congrArg Prod.fst h2)
  simp only [List.length_map] at h3
  rw [h1.2.1, ← hel]
  exact Nat.le_trans (Nat.mul_le_mul_right _ (Nat.le_add_right _ _)) h3
theorem shBlsR {c : List AV} (h : (Sh.slice 1 .bool).R c) : ∃ L : List Bool, c = [.list 1 (bls L)] ∧ L.length ≤ 9223372036854775807 := by
 obtain ⟨xs, rfl, hl, h⟩ := h
 obtain ⟨L, rfl, hL⟩ := exists_map (f := AV.bool) (Q := fun _ => True) fun x hx => by
  obtain ⟨cs, hr, _, rfl⟩ := h x hx
  obtain ⟨b, rfl⟩ := hr
  exact ⟨b, trivial, rfl⟩
 exact ⟨L, rfl, by simpa using hl⟩
theorem law_law37_CauseDoes {c0 c1 c2 c3 c4 c5 c6 c7 : List AV} (s0 : (Sh.slice 1 (.int .i64)).R c0) (s1 : shBo.R c1) (s2 : (Sh.int .i64).R c2) (s3 : (Sh.int .i64).R c3) (s4 : (Sh.int .i64).R c4) (s5 : shCs.R c5) (s6 : (Sh.slice 2 shCs).R c6) (s7 : (Sh.slice 1 .bool).R c7)
  (z6 : ∀ xs, c6 = [.list 2 xs] → xs.length * 16 ≤ 140737488351232) :
  PC prog n_law37_CauseDoes [(Sh.slice 1 (.int .i64)).mk1 c0, shBo.mk1 c1, (Sh.int .i64).mk1 c2, (Sh.int .i64).mk1 c3, (Sh.int .i64).mk1 c4, shCs.mk1 c5, (Sh.slice 2 shCs).mk1 c6, (Sh.slice 1 .bool).mk1 c7] (.bool true) := by
 obtain ⟨l0, rfl, _, _⟩ := shInts s0
 obtain ⟨b, hb, hL⟩ := shBoR s1
 obtain ⟨a2, rfl, w2⟩ := s2
 obtain ⟨a3, rfl, w3⟩ := s3
 obtain ⟨a4, rfl, w4⟩ := s4
 obtain ⟨c, hc⟩ := shCsR s5
 obtain ⟨x, rfl, hx⟩ := shCssR s6
 obtain ⟨q, rfl, hq⟩ := shBlsR s7
 have z := z6 _ rfl
 rw [css_length] at z
 rw [hb, hc]
 exact ok_law37_CauseDoes l0 b a2 a3 a4 c x q hL (by omega) hq (wf_i64 w2) (wf_i64 w3) (wf_i64 w4)
end Go.Proofs.Try
