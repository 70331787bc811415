/- OWN WORK, put together by tools/asm.py, seat.py, mini.py. -/
import Derived.Test.YtpdfbkeholfdaaaLibD
set_option linter.unusedSimpArgs false
set_option linter.unusedVariables false
set_option maxRecDepth 100000
set_option maxHeartbeats 1000000
namespace Go.Proofs.Try
open Go.Ab Go
open Int renaming reduceEq → jA, reduceLT → jB, reduceLE → jC, reduceToNat → jD
open Go.Ab renaming w_ite_ne → jM, w_ite_lt → jN, wrap_id → jO, w_app_nl → jP
open Nat renaming reduceLT → jE, reduceEqDiff → jF, reduceAdd → jG, reduceLeDiff → jH, reduceSub → jI, reduceMul → jJ, sub_zero → jK, sub_self → jL
def pX (p : Dv × AV) : AV := dvX p.1 p.2
def pXs (P : List (Dv × AV)) : List AV := P.map pX
def Sn (p : Dv × AV) : Prop := p.2.flat = true ∧ p.2.cells = [p.2] ∧ p.2.one = true
theorem pXs_length (P : List (Dv × AV)) : (pXs P).length = P.length := by simp [pXs]
def SlP (τ : St) (P : List (Dv × AV)) (r : AV) : Prop := ((r = .nil ∨ r = .list 7 []) ∧ P = []) ∨ ∃ id g L, r = .sl id g 7 0 P.length ∧ id < τ.n ∧ τ.ob id = some ⟨g, 7, tyDv, false, true, L⟩ ∧ P.length ≤ L.length ∧ L.take P.length = pXs P
theorem SlP.of {τ : St} {P : List (Dv × AV)} {E : AV} (h : SlR 7 tyDv τ (pXs P) E) : SlP τ P E := by
 rcases h with ⟨h1, h2⟩ | ⟨id, g, h1, h2, h3⟩
 ·exact .inl ⟨.inl h1, by simpa [pXs] using h2⟩
 ·exact .inr ⟨id, g, pXs P, by rw [h1, pXs_length], h2, h3, by rw [pXs_length]; exact Nat.le_refl _, List.take_of_length_le (by rw [pXs_length]; exact Nat.le_refl _)⟩
def clrD (now : Int) (d : Dv) : Bool := d.wd || decide (d.to < now)
def clrS (K : Dk) (now : Int) : Dk × Int := if chkD K = false then (dk0, 50) else (⟨K.ps, K.nx, K.ds.filter fun d => !clrD now d⟩, 0)
theorem SlP.one {σ : St} {P : List (Dv × AV)} {r : AV} (h : SlP σ P r) : r.flat = true ∧ r.cells = [r] ∧ r.one = true := by
 rcases h with ⟨h1 | h1, rfl⟩ | ⟨id, g, L, rfl, h2, h3, h4, h5⟩
 ·subst h1; exact ⟨rfl, rfl, rfl⟩
 ·subst h1; exact ⟨rfl, rfl, rfl⟩
 ·exact ⟨rfl, rfl, rfl⟩
theorem SlP.move {σ τ : St} {P : List (Dv × AV)} {r : AV} (h : SlP σ P r) (hn : σ.n ≤ τ.n) (ho : ∀ i, i < σ.n → ¬ Oth r i → τ.ob i = σ.ob i) : SlP τ P r := by
 rcases h with h | ⟨id, g, L, rfl, h2, h3, h4, h5⟩
 ·exact .inl h
 ·exact .inr ⟨id, g, L, rfl, by omega, (ho id h2 fun h => h _ _ _ _ rfl).trans h3, h4, h5⟩
def kS0 : Dk := ⟨[⟨1, 1, 5⟩, ⟨2, 2, 6⟩], 1, []⟩
def xS0 : Dv := ⟨1, 0, 3, 9, 40, [], false⟩
def kS1 : Dk := ⟨[⟨1, 1, 5⟩, ⟨2, 2, 6⟩], 2, [xS0]⟩
def kS2 : Dk := ⟨[⟨1, 1, 5⟩, ⟨2, 2, 6⟩], 2, [⟨1, 0, 3, 9, 40, [1], false⟩]⟩
def kS3 : Dk := ⟨[⟨1, 1, 5⟩, ⟨2, 2, 6⟩], 2, [⟨1, 0, 3, 9, 40, [1, 2], false⟩]⟩
theorem sS1 : reqS kS0 0 3 9 40 = (kS1, 1, 0) := by decide +kernel
theorem sS2 : infS kS1 0 5 = (dv0, false) := by decide +kernel
theorem sS3 : sgnS kS1 1 1 (codeS 5 1 xS0) 3 = (kS2, 0) := by decide +kernel
theorem sS4 : sgnS kS2 1 2 (codeS 6 1 xS0) 3 = (kS3, 0) := by decide +kernel
theorem sS5 : infS kS3 0 5 = (⟨1, 0, 3, 9, 40, [1, 2], false⟩, true) := by decide +kernel
theorem sS6 : codeS 1 1 dv0 = 230903379 := by decide +kernel
theorem dv0_nl : NlR (.agg [.int .i64 0, .int .i64 0, .int .i64 0, .int .i64 0, .int .i64 0, .nil, .bool false]) (dvv dv0) :=
 .agg (.cons .rfl (.cons .rfl (.cons .rfl (.cons .rfl (.cons .rfl (.cons (.nil 1) (.cons .rfl .nil)))))))
theorem ok_law26_sane : PC prog n_law26_sane [] (.bool true) := by
 have h1 := ok_deviation_Request kS0 ⟨by decide, by decide⟩ 0 3 9 40
 have h2 := ok_deviation_InForce kS1 ⟨by decide, by decide⟩ 0 5
 have h3 := ok_deviation_Code 5 1 xS0
 have h4 := ok_deviation_Sign kS1 ⟨by decide, by decide⟩ 1 1 (codeS 5 1 xS0) 3
 have h5 := ok_deviation_Code 6 1 xS0
 have h6 := ok_deviation_Sign kS2 ⟨by decide, by decide⟩ 1 2 (codeS 6 1 xS0) 3
 have h7 := ok_deviation_InForce kS3 ⟨by decide, by decide⟩ 0 5
 have h8 := pc_nl (ok_deviation_Code 1 1 dv0) (.cons .rfl (.cons .rfl (.cons dv0_nl .nil)))
 rw [sS1] at h1
 rw [sS2] at h2
 rw [sS3] at h4
 rw [sS4] at h6
 rw [sS5] at h7
 rw [sS6] at h8
 have h1 := pc_nl (args := [.agg [.list 3 [.agg [.int .i64 1, .int .i64 1, .int .i64 5], .agg [.int .i64 2, .int .i64 2, .int .i64 6]], .int .i64 1, .nil], .int .i64 0, .int .i64 3, .int .i64 9, .int .i64 40]) h1 (.cons (.agg (.cons .rfl (.cons .rfl (.cons (.nil 7) .nil)))) (NlRs.refl _))
 generalize codeS 5 1 xS0 = k1 at *
 generalize codeS 6 1 xS0 = k2 at *
 simp only [dkv, kS1, kS2, kS3, xS0, pns, dvs, dvv, dvX, pnv, ints, List.map_cons, List.map_nil, dv0] at h1 h2 h3 h4 h5 h6 h7
 refine PC_of_body b_law26_sane (by simp) ?_
 simp only [c_law26_sane, go_sem, jA, jB, jC, jD, jE, jF, jG, jH, jI, jJ, ↓reduceIte, reduceCtorEq, jP]
 try simp (disch := omega) only [go_sem, jA, jB, jC, jD, jE, jF, jG, jH, jI, jJ, ↓reduceIte, reduceCtorEq, jO, jM, jN, jK, jL]
 refine call_pc h1 (by simp [go_sem]) ?_
 try simp (disch := omega) only [go_sem, jA, jB, jC, jD, jE, jF, jG, jH, jI, jJ, ↓reduceIte, reduceCtorEq, jO, jM, jN, jK, jL]
 refine call_pc h2 (by simp [go_sem]) ?_
 try simp (disch := omega) only [go_sem, jA, jB, jC, jD, jE, jF, jG, jH, jI, jJ, ↓reduceIte, reduceCtorEq, jO, jM, jN, jK, jL]
 refine call_pc h3 (by simp [go_sem]) ?_
 try simp (disch := omega) only [go_sem, jA, jB, jC, jD, jE, jF, jG, jH, jI, jJ, ↓reduceIte, reduceCtorEq, jO, jM, jN, jK, jL]
 refine call_pc h4 (by simp [go_sem]) ?_
 try simp (disch := omega) only [go_sem, jA, jB, jC, jD, jE, jF, jG, jH, jI, jJ, ↓reduceIte, reduceCtorEq, jO, jM, jN, jK, jL]
 refine call_pc h5 (by simp [go_sem]) ?_
 try simp (disch := omega) only [go_sem, jA, jB, jC, jD, jE, jF, jG, jH, jI, jJ, ↓reduceIte, reduceCtorEq, jO, jM, jN, jK, jL]
 refine call_pc h6 (by simp [go_sem]) ?_
 try simp (disch := omega) only [go_sem, jA, jB, jC, jD, jE, jF, jG, jH, jI, jJ, ↓reduceIte, reduceCtorEq, jO, jM, jN, jK, jL]
 refine call_pc h7 (by simp [go_sem]) ?_
 try simp (disch := omega) only [go_sem, jA, jB, jC, jD, jE, jF, jG, jH, jI, jJ, ↓reduceIte, reduceCtorEq, jO, jM, jN, jK, jL]
 refine call_pc h8 (by simp [go_sem]) ?_
 try simp (disch := omega) only [go_sem, jA, jB, jC, jD, jE, jF, jG, jH, jI, jJ, ↓reduceIte, reduceCtorEq, jO, jM, jN, jK, jL]
 exact Pub.pure rfl
theorem DkB.l {K : Dk} (h : DkB K) : DkL K := ⟨h.s, fun d hd => by have := (h.kd d hd).2.2; omega⟩
theorem dk0_l : DkL dk0 := dk0_b.l
theorem DkL.clr {K : Dk} (h : DkL K) (now : Int) : DkL (clrS K now).1 := by
 unfold clrS
 split
 ·exact dk0_l
 ·refine ⟨⟨h.s.lp, ?_⟩, fun d hd => h.sg d (List.mem_filter.1 hd).1⟩
  have := List.length_filter_le (fun d => !clrD now d) K.ds
  have := h.s.ld
  simp only; omega
theorem DkL.req {K : Dk} (h : DkL K) (site fr to rel : Int) : DkL (reqS K site fr to rel).1 := by
 unfold reqS
 cases hc : chkD K
 ·simp only [if_true]; exact dk0_l
 have h1 := chkD_nx hc
 simp only [Bool.true_eq_false, if_false]
 split
 ·exact dk0_l
 split
 ·exact dk0_l
 split
 ·exact dk0_l
 split
 ·exact dk0_l
 ·refine ⟨⟨h.s.lp, by simp; omega⟩, fun d hd => ?_⟩
  rcases List.mem_append.1 hd with hd | hd
  ·exact h.sg d hd
  ·obtain rfl : d = _ := by simpa using hd
   simp
theorem set_l {K : Dk} (h : DkL K) {i : Nat} {d : Dv} (hd : d.sg.length ≤ 9223372036854775807) : DkL ⟨K.ps, K.nx, K.ds.set i d⟩ :=
 ⟨⟨h.s.lp, by simpa using h.s.ld⟩, fun e he => by
  rcases List.mem_or_eq_of_mem_set he with he | rfl
  ·exact h.sg e he
  ·exact hd⟩
theorem gD_sg {K : Dk} (hc : chkD K = true) (i : Nat) : (gD K.ds i).sg.length ≤ 2 := by
 by_cases hi : i < K.ds.length
 ·exact chkD_sg hc (List.mem_of_getElem? (gD_get hi))
 ·have : gD K.ds i = default := by rw [gD, List.getD_eq_getElem?_getD, List.getElem?_eq_none (by omega)]; rfl
  rw [this]; simp [default, instInhabitedDv.default]
theorem DkL.sgn {K : Dk} (h : DkL K) (id who code now : Int) : DkL (sgnS K id who code now).1 := by
 simp only [sgnS]
 split
 ·exact dk0_l
 split
 ·exact dk0_l
 split
 ·exact dk0_l
 ·rename_i h1 _ _
  have hg := gD_sg (askS_chk (by simpa using h1)) (askS K id who code now 1).1.toNat
  exact set_l h (by simp; omega)
def prv (p : Int × Int) : AV := .agg [.int .i64 p.1, .int .i64 p.2]
def prs (l : List (Int × Int)) : List AV := l.map prv
theorem prs_length (l : List (Int × Int)) : (prs l).length = l.length := by simp [prs]
theorem prs_get (l : List (Int × Int)) (i : Nat) : (prs l)[i]? = (l[i]?).map prv := by simp [prs]
theorem prs_pur (l : List (Int × Int)) : ∀ x ∈ prs l, x.pur = true := fun y hy => by obtain ⟨p, _, rfl⟩ := List.mem_map.1 hy; rfl
theorem prs_ok (l : List (Int × Int)) : ∀ x ∈ prs l, okE 2 x := fun y hy => by obtain ⟨p, _, rfl⟩ := List.mem_map.1 hy; exact ⟨rfl, rfl⟩
def rolP (l : List Pn) (w : Int) : List Int := (l.filter fun p => decide (p.id = w)).map Pn.role
def rolT (K : Dk) (x : Dv) (L : List (Int × Int)) : List Int := L.flatMap fun s => if s.1 = x.id then rolP K.ps s.2 else []
def twoS (K : Dk) (x : Dv) (L : List (Int × Int)) : Bool := decide ((rolT K x L).length = 2) && !decide ((rolT K x L).getD 0 0 = (rolT K x L).getD 1 0)
theorem rolP_len (l : List Pn) (w : Int) : (rolP l w).length ≤ l.length := by
 rw [rolP, List.length_map]; exact List.length_filter_le _ _
theorem rolP_snoc {l : List Pn} {w : Int} {i : Nat} (hi : i < l.length) : rolP (l.take (i + 1)) w = rolP (l.take i) w ++ (if l[i].id = w then [l[i].role] else []) := by
 rw [rolP, rolP, List.take_add_one, List.getElem?_eq_getElem hi, List.filter_append, List.map_append]
 congr 1
 by_cases h : l[i].id = w <;> simp [h]
theorem rolT_snoc {K : Dk} {x : Dv} {L : List (Int × Int)} {i : Nat} (hi : i < L.length) : rolT K x (L.take (i + 1)) = rolT K x (L.take i) ++ (if L[i].1 = x.id then rolP K.ps L[i].2 else []) := by
 rw [rolT, rolT, List.take_add_one, List.getElem?_eq_getElem hi, List.flatMap_append]
 simp
theorem rolT_len (K : Dk) (x : Dv) (h : K.ps.length ≤ 1000) : ∀ L : List (Int × Int), (rolT K x L).length ≤ 1000 * L.length
 | [] => by simp [rolT]
 | s :: L => by
  have h1 := rolT_len K x h L
  have h2 := rolP_len K.ps s.2
  have h3 : (if s.1 = x.id then rolP K.ps s.2 else []).length ≤ 1000 := by
   split
   ·omega
   ·simp
  have h4 : rolT K x (s :: L) = (if s.1 = x.id then rolP K.ps s.2 else []) ++ rolT K x L := by rw [rolT, List.flatMap_cons]; rfl
  rw [h4, List.length_append, List.length_cons]
  omega
set_option maxHeartbeats 4000000 in
theorem ok_law26_two (K : Dk) (x : Dv) (L : List (Int × Int)) (hL : L.length ≤ 1000) (hK : K.ps.length ≤ 1000) : PC prog n_law26_two [dkv K, dvv x, .list 2 (prs L)] (.bool (twoS K x L)) := by
 refine PC_of_body b_law26_two (by simp) ?_
 simp only [c_law26_two, dkv, dvv, dvX]
 try simp (disch := omega) only [go_sem, jA, jB, jC, jD, jE, jF, jG, jH, jI, jJ, ↓reduceIte, reduceCtorEq, jO, jM, jN, jK, jL, prs_length]
 refine awp_upG [7, 9, 11, 14, 15, 16, 17, 18, 19, 20, 21, 22, 23, 24, 25, 26, 27, 28, 29, 30, 31, 32, 33, 34, 35, 36, 37, 38, 39, 40, 41] (by kernel_rfl) L.length (fun i e σ => e 14 = .int .i64 i ∧ 2 ≤ σ.n ∧ σ.ob 0 = some ⟨0, 3, 31, false, true, [.agg [.list 3 (pns K.ps), .int .i64 K.nx, .list 7 (dvs K.ds)]]⟩ ∧ σ.ob 1 = some ⟨1, 7, 43, false, true, [.agg [.int .i64 x.id, .int .i64 x.site, .int .i64 x.fr, .int .i64 x.to, .int .i64 x.rel, .list 1 (ints x.sg), .bool x.wd]]⟩ ∧
  ∃ Y, At e 7 Y ∧ SlR 1 3 σ (ints (rolT K x (L.take i))) Y ∧ Oth Y 0 ∧ Oth Y 1) ?_ ?_
 ·exact ⟨(by first | rfl | (simp (disch := omega) only [go_sem, jA, jB, jC, jD, jE, jF, jG, jH, jI, jJ, ↓reduceIte, reduceCtorEq, jP, jO, jM, jN]; try rfl)), Nat.le_refl _, by try simp (disch := omega) only [go_sem, jA, jB, jC, jD, jE, jF, jG, jH, jI, jJ, ↓reduceIte, reduceCtorEq, jO, jM, jN, jK, jL], by try simp (disch := omega) only [go_sem, jA, jB, jC, jD, jE, jF, jG, jH, jI, jJ, ↓reduceIte, reduceCtorEq, jO, jM, jN, jK, jL], .nil, (by simp only [At]; try simp (disch := omega) only [go_sem, jA, jB, jC, jD, jE, jF, jG, jH, jI, jJ, ↓reduceIte, reduceCtorEq, jO, jM, jN, jK, jL]), by simp [rolT, ints]; exact SlR.nil, Oth.nil _, Oth.nil _⟩
 rintro i fe ob m c hi hm ⟨h14, hm1, v0, v1, Y, h7, hY, hY0, hY1⟩
 simp (maxSteps := 1000000) only [go_sem, jA, jB, jC, jD, jE, jF, jG, jH, jI, jJ, ↓reduceIte, reduceCtorEq, jP, At] at h14 hm hm1 v0 v1 h7
 try simp (disch := omega) only [go_sem, jA, jB, jC, jD, jE, jF, jG, jH, jI, jJ, ↓reduceIte, reduceCtorEq, jO, jM, jN, jK, jL, h14, prs_length]
 refine cond_d (fun hlt => ?_) (fun hge => ?_)
 ·have hil : i < L.length := by omega
  have hg : L[i]? = some L[i] := List.getElem?_eq_getElem hil
  have hsn := rolT_snoc (K := K) (x := x) hil
  have hrl := rolT_len K x hK (L.take i)
  rw [List.length_take] at hrl
  generalize L[i] = s at *
  have z0 : ¬ 0 = m := by omega
  have z1 : ¬ 1 = m := by omega
  try simp (disch := omega) only [go_sem, jA, jB, jC, jD, jE, jF, jG, jH, jI, jJ, ↓reduceIte, reduceCtorEq, jO, jM, jN, jK, jL, h14, prs_length, prs_get, hg, Option.map_some, prv, v0, v1, z0, z1]
  refine ⟨by omega, by omega, ?_⟩
  refine cond_n (fun hq => ?_) (fun hq => ?_)
  ·rw [if_neg hq, List.append_nil] at hsn
   try simp (disch := omega) only [go_sem, jA, jB, jC, jD, jE, jF, jG, jH, jI, jJ, ↓reduceIte, reduceCtorEq, jO, jM, jN, jK, jL, h14]
   refine up_nextG m hil (by omega) ⟨(by first | rfl | (simp (disch := omega) only [go_sem, jA, jB, jC, jD, jE, jF, jG, jH, jI, jJ, ↓reduceIte, reduceCtorEq, jP, jO, jM, jN]; try rfl)), by simp only [St.trunc]; omega, ?_, ?_, Y, (by simp only [At]; try simp (disch := omega) only [go_sem, jA, jB, jC, jD, jE, jF, jG, jH, jI, jJ, ↓reduceIte, reduceCtorEq, jO, jM, jN, jK, jL, h7]), ?_, hY0, hY1⟩
   ·simp only [St.trunc]; rw [if_pos (by omega), upd_ne _ _ _ _ (by omega), upd_ne _ _ _ _ (by omega)]; exact v0
   ·simp only [St.trunc]; rw [if_pos (by omega), upd_ne _ _ _ _ (by omega), upd_ne _ _ _ _ (by omega)]; exact v1
   ·rw [hsn]
    exact hY.move (by simp only [St.trunc]; omega) fun j hj _ => by simp only at hj; simp only [St.trunc]; rw [if_pos hj, upd_ne _ _ _ _ (by omega), upd_ne _ _ _ _ (by omega)]
  rw [if_pos hq] at hsn
  try simp (disch := omega) only [go_sem, jA, jB, jC, jD, jE, jF, jG, jH, jI, jJ, ↓reduceIte, reduceCtorEq, jO, jM, jN, jK, jL, v0, v1, z0, z1, pns_length]
  refine awp_upG [7, 11, 26, 27, 28, 29, 30, 31, 32, 33, 34, 35, 36, 37, 38, 39, 40] (by kernel_rfl) K.ps.length (fun j e σ => e 26 = .int .i64 j ∧ m + 1 ≤ σ.n ∧ σ.ob 0 = some ⟨0, 3, 31, false, true, [.agg [.list 3 (pns K.ps), .int .i64 K.nx, .list 7 (dvs K.ds)]]⟩ ∧ σ.ob 1 = some ⟨1, 7, 43, false, true, [.agg [.int .i64 x.id, .int .i64 x.site, .int .i64 x.fr, .int .i64 x.to, .int .i64 x.rel, .list 1 (ints x.sg), .bool x.wd]]⟩ ∧ σ.ob m = some ⟨c, 2, 41, false, true, [.agg [.int .i64 s.1, .int .i64 s.2]]⟩ ∧
   ∃ Y, At e 7 Y ∧ SlR 1 3 σ (ints (rolT K x (L.take i) ++ rolP (K.ps.take j) s.2)) Y ∧ Oth Y 0 ∧ Oth Y 1 ∧ Oth Y m) ?_ ?_
  ·refine ⟨(by first | rfl | (simp (disch := omega) only [go_sem, jA, jB, jC, jD, jE, jF, jG, jH, jI, jJ, ↓reduceIte, reduceCtorEq, jP, jO, jM, jN]; try rfl)), Nat.le_refl _, ?_, ?_, by try simp (disch := omega) only [go_sem, jA, jB, jC, jD, jE, jF, jG, jH, jI, jJ, ↓reduceIte, reduceCtorEq, jO, jM, jN, jK, jL], Y, (by simp only [At]; try simp (disch := omega) only [go_sem, jA, jB, jC, jD, jE, jF, jG, jH, jI, jJ, ↓reduceIte, reduceCtorEq, jO, jM, jN, jK, jL, h7]), ?_, hY0, hY1, hY.oth (Nat.le_refl _)⟩
   ·simp only; rw [upd_ne _ _ _ _ (by omega), upd_ne _ _ _ _ (by omega)]; exact v0
   ·simp only; rw [upd_ne _ _ _ _ (by omega), upd_ne _ _ _ _ (by omega)]; exact v1
   ·rw [List.take_zero, show rolP [] s.2 = [] from rfl, List.append_nil]
    exact hY.move (by simp only; omega) fun j hj _ => by simp only at hj ⊢; rw [upd_ne _ _ _ _ (by omega), upd_ne _ _ _ _ (by omega)]
  clear hY h7 hY0 hY1
  rintro j fe2 ob2 m2 c2 hj hm2 ⟨h26, hm3, w0, w1, wm, Y2, h7, hY, hY0, hY1, hYm⟩
  simp (maxSteps := 1000000) only [go_sem, jA, jB, jC, jD, jE, jF, jG, jH, jI, jJ, ↓reduceIte, reduceCtorEq, jP, At] at h26 hm2 hm3 w0 w1 wm h7
  try simp (disch := omega) only [go_sem, jA, jB, jC, jD, jE, jF, jG, jH, jI, jJ, ↓reduceIte, reduceCtorEq, jO, jM, jN, jK, jL, h26]
  refine cond_d (fun hlt2 => ?_) (fun hge2 => ?_)
  ·have hjl : j < K.ps.length := by omega
   have hgp : K.ps[j]? = some K.ps[j] := List.getElem?_eq_getElem hjl
   have hsn2 := rolP_snoc (w := s.2) hjl
   have hrl2 := rolP_len (K.ps.take j) s.2
   rw [List.length_take] at hrl2
   generalize K.ps[j] = p at *
   have y0 : ¬ m = m2 := by omega
   try simp (disch := omega) only [go_sem, jA, jB, jC, jD, jE, jF, jG, jH, jI, jJ, ↓reduceIte, reduceCtorEq, jO, jM, jN, jK, jL, h26, pns_length, pns_get, hgp, Option.map_some, pnv, wm, y0]
   refine ⟨by omega, by omega, ?_⟩
   refine cond_d (fun hq2 => ?_) (fun hq2 => ?_)
   ·rw [if_pos hq2] at hsn2
    try simp (disch := omega) only [go_sem, jA, jB, jC, jD, jE, jF, jG, jH, jI, jJ, ↓reduceIte, reduceCtorEq, jO, jM, jN, jK, jL, h7]
    refine app_slr (b := 8) (hY.move (by simp only; omega) fun k hk _ => by simp only at hk ⊢; rw [upd_ne _ _ _ _ (by omega), upd_ne _ _ _ _ (by omega)]) (by rw [ints_length, List.length_append]; omega) (by rw [ints_length, List.length_append]; omega) fun Y3 τ3 hY3 kY => ?_
    obtain ⟨ob7, m7, c7⟩ := τ3
    have q1 : m2 + 1 ≤ m7 := kY.1
    have q2 : ∀ k, k < m2 → Oth Y2 k → ob7 k = ob2 k := fun k hk h => (kY.2.1 k (by simp only; omega) h).trans (by simp only; rw [upd_ne _ _ _ _ (by omega), upd_ne _ _ _ _ (by omega)])
    have q3 : ∀ k, k < m2 → Oth Y2 k → Oth Y3 k := fun k hk h => kY.2.2 k (by simp only; omega) h
    try simp (disch := omega) only [go_sem, jA, jB, jC, jD, jE, jF, jG, jH, jI, jJ, ↓reduceIte, reduceCtorEq, jO, jM, jN, jK, jL, h26]
    refine up_nextG m7 hjl (by omega) ⟨(by first | rfl | (simp (disch := omega) only [go_sem, jA, jB, jC, jD, jE, jF, jG, jH, jI, jJ, ↓reduceIte, reduceCtorEq, jP, jO, jM, jN]; try rfl)), by simp only [St.trunc]; omega, by rw [tr_ob (by omega), q2 0 (by omega) hY0]; exact w0, by rw [tr_ob (by omega), q2 1 (by omega) hY1]; exact w1, by rw [tr_ob (by omega), q2 m (by omega) hYm]; exact wm, Y3, (by simp only [At]; try simp (disch := omega) only [go_sem, jA, jB, jC, jD, jE, jF, jG, jH, jI, jJ, ↓reduceIte, reduceCtorEq, jO, jM, jN, jK, jL]), ?_, q3 0 (by omega) hY0, q3 1 (by omega) hY1, q3 m (by omega) hYm⟩
    rw [hsn2, ← List.append_assoc, show ∀ (A : List Int) (b : Int), ints (A ++ [b]) = ints A ++ [.int .i64 b] from fun A b => by simp [ints]]
    exact hY3.tr
   ·rw [if_neg hq2, List.append_nil] at hsn2
    try simp (disch := omega) only [go_sem, jA, jB, jC, jD, jE, jF, jG, jH, jI, jJ, ↓reduceIte, reduceCtorEq, jO, jM, jN, jK, jL, h26]
    refine up_nextG m2 hjl (by omega) ⟨(by first | rfl | (simp (disch := omega) only [go_sem, jA, jB, jC, jD, jE, jF, jG, jH, jI, jJ, ↓reduceIte, reduceCtorEq, jP, jO, jM, jN]; try rfl)), by simp only [St.trunc]; omega, ?_, ?_, ?_, Y2, (by simp only [At]; try simp (disch := omega) only [go_sem, jA, jB, jC, jD, jE, jF, jG, jH, jI, jJ, ↓reduceIte, reduceCtorEq, jO, jM, jN, jK, jL, h7]), ?_, hY0, hY1, hYm⟩
    ·simp only [St.trunc]; rw [if_pos (by omega), upd_ne _ _ _ _ (by omega), upd_ne _ _ _ _ (by omega)]; exact w0
    ·simp only [St.trunc]; rw [if_pos (by omega), upd_ne _ _ _ _ (by omega), upd_ne _ _ _ _ (by omega)]; exact w1
    ·simp only [St.trunc]; rw [if_pos (by omega), upd_ne _ _ _ _ (by omega), upd_ne _ _ _ _ (by omega)]; exact wm
    ·rw [hsn2]
     exact hY.move (by simp only [St.trunc]; omega) fun k hk _ => by simp only at hk; simp only [St.trunc]; rw [if_pos hk, upd_ne _ _ _ _ (by omega), upd_ne _ _ _ _ (by omega)]
  obtain rfl : j = K.ps.length := by omega
  rw [List.take_length] at hY
  try simp (disch := omega) only [go_sem, jA, jB, jC, jD, jE, jF, jG, jH, jI, jJ, ↓reduceIte, reduceCtorEq, jO, jM, jN, jK, jL, h14]
  refine up_nextG m2 hil (by omega) ⟨(by first | rfl | (simp (disch := omega) only [go_sem, jA, jB, jC, jD, jE, jF, jG, jH, jI, jJ, ↓reduceIte, reduceCtorEq, jP, jO, jM, jN]; try rfl)), by simp only [St.trunc]; omega, by rw [tr_ob (by omega)]; exact w0, by rw [tr_ob (by omega)]; exact w1, Y2, (by simp only [At]; try simp (disch := omega) only [go_sem, jA, jB, jC, jD, jE, jF, jG, jH, jI, jJ, ↓reduceIte, reduceCtorEq, jO, jM, jN, jK, jL, h7]), by rw [hsn]; exact hY.tr, hY0, hY1⟩
 obtain rfl : i = L.length := by omega
 rw [List.take_length] at hY
 have hlY : ∀ {τ : St} {C : AV → St → Prop}, lenC Y τ C = C (.int .i64 ((ints (rolT K x L)).length : Int)) τ := by
  intro τ C
  rcases hY with ⟨rfl, h⟩ | ⟨id, g, rfl, _, _⟩
  ·rw [w_len_n, h]; rfl
  ·rw [w_len_s]
 try simp (disch := omega) only [go_sem, jA, jB, jC, jD, jE, jF, jG, jH, jI, jJ, ↓reduceIte, reduceCtorEq, jO, jM, jN, jK, jL, h7, hlY, ints_length]
 rw [twoS]
 generalize rolT K x L = R at *
 refine gd_td rfl (fun g1 => ?_) (fun g1 => ?_) <;> try simp (disch := omega) only [go_sem, jA, jB, jC, jD, jE, jF, jG, jH, jI, jJ, ↓reduceIte, reduceCtorEq, jO, jM, jN, jK, jL, h7]
 ·rcases hY with ⟨rfl, h⟩ | ⟨id, g, rfl, hid, hob⟩
  ·have := congrArg List.length h; rw [ints_length] at this; simp at this; rw [this] at g1; simp at g1
  ·simp only at hid hob
   match R, g1, hob with
   | [a, b], _, hob =>
    try simp (disch := omega) only [go_sem, jA, jB, jC, jD, jE, jF, jG, jH, jI, jJ, ↓reduceIte, reduceCtorEq, jO, jM, jN, jK, jL, hob, ints, List.map_cons, List.map_nil]
    exact Pub.pure rfl
 ·exact Pub.of_eq (by simp; intro h; omega) rfl
theorem strict_of {f : Nat → Int} {n : Nat} (h : ∀ i, i < n → 0 < i → f (i - 1) < f i) : ∀ j i, i < j → j < n → f i < f j
 | 0, i, hi, _ => by omega
 | j + 1, i, hi, hj => by
  have h1 := h (j + 1) hj (by omega)
  rw [Nat.add_sub_cancel] at h1
  by_cases e : i = j
  ·subst e; exact h1
  ·have := strict_of h j i (by omega) (by omega); omega
theorem ps_pw {K : Dk} (h : chkD K = true) : K.ps.Pairwise fun a b => a.id ≠ b.id := by
 have h1 := chkD_prp h
 simp only [prpS, Bool.and_eq_true, all_range] at h1
 have h2 := strict_of (f := fun i => (gP K.ps i).id) (n := K.ps.length) fun i hi h0 => ((okP_iff K i).1 (h1.2 i hi)).2.1 h0
 rw [List.pairwise_iff_getElem]
 intro i j hi hj hij
 have h3 := h2 j i hij hj
 have e1 := gP_get hi
 have e2 := gP_get hj
 rw [List.getElem?_eq_getElem hi] at e1
 rw [List.getElem?_eq_getElem hj] at e2
 rw [Option.some.inj e1, Option.some.inj e2]
 omega
theorem ds_ok {K : Dk} (h : chkD K = true) {i : Nat} (hi : i < K.ds.length) : okD K i = true := by
 simp only [chkD, Bool.and_eq_true, all_range] at h
 exact h.2 i hi
theorem ds_ne {K : Dk} (h : chkD K = true) {i j : Nat} (hi : i < K.ds.length) (hj : j < K.ds.length) (hij : i ≠ j) : (gD K.ds i).id ≠ (gD K.ds j).id := by
 have h2 := strict_of (f := fun i => (gD K.ds i).id) (n := K.ds.length) fun i hi h0 => ((okD_iff K i).1 (ds_ok h hi)).2.1 h0
 rcases Nat.lt_or_gt_of_ne hij with h3 | h3
 ·have := h2 j i h3 hj; omega
 ·have := h2 i j h3 hi; omega
theorem filter_one {w : Int} : ∀ {l : List Pn} {p : Pn}, (l.Pairwise fun a b => a.id ≠ b.id) → l.find? (fun p => decide (p.id = w)) = some p → l.filter (fun p => decide (p.id = w)) = [p]
 | [], p, _, h => by simp at h
 | a :: l, p, hp, h => by
  rw [List.pairwise_cons] at hp
  by_cases e : a.id = w
  ·rw [List.find?_cons_of_pos (by simp [e])] at h
   obtain rfl := Option.some.inj h
   rw [List.filter_cons_of_pos (by simp [e])]
   congr 1
   rw [List.filter_eq_nil_iff]
   intro b hb
   have := hp.1 b hb
   simp
   omega
  ·rw [List.find?_cons_of_neg (by simp [e])] at h
   rw [List.filter_cons_of_neg (by simp [e])]
   exact filter_one hp.2 h
theorem rolP_one {K : Dk} {w : Int} (h : chkD K = true) (hw : (prsS K w).2 = true) : rolP K.ps w = [(prsS K w).1.role] := by
 unfold prsS at hw ⊢
 cases hf : K.ps.find? (fun p => decide (p.id = w)) with
 | none => rw [hf] at hw; cases hw
 | some p => rw [rolP, filter_one (ps_pw h) hf]; rfl
structure SI (K : Dk) (L : List (Int × Int)) : Prop where
 sg : ∀ d ∈ K.ds, (L.filter fun s => decide (s.1 = d.id)).map Prod.snd = d.sg
 lt : ∀ s ∈ L, s.1 < K.nx
theorem SI.start (ps : List Pn) : SI ⟨ps, 1, []⟩ [] := ⟨fun d h => by simp at h, fun s h => by simp at h⟩
theorem SI.req {K : Dk} {L : List (Int × Int)} (h : SI K L) {site fr to rel : Int} (he : (reqS K site fr to rel).2.2 = 0) : SI (reqS K site fr to rel).1 L := by
 unfold reqS at he ⊢
 cases hc : chkD K
 ·rw [hc, if_pos rfl] at he; simp at he
 rw [hc] at he
 simp only [Bool.true_eq_false, if_false] at he ⊢
 split
 ·rename_i h1; rw [if_pos h1] at he; simp at he
 rename_i h1
 rw [if_neg h1] at he
 split
 ·rename_i h2; rw [if_pos h2] at he; simp at he
 rename_i h2
 rw [if_neg h2] at he
 split
 ·rename_i h3; rw [if_pos h3] at he; simp at he
 rename_i h3
 rw [if_neg h3] at he
 split
 ·rename_i h4; rw [if_pos h4] at he; simp at he
 refine ⟨fun d hd => ?_, fun s hs => by have := h.lt s hs; simp only; omega⟩
 rcases List.mem_append.1 hd with hd | hd
 ·exact h.sg d hd
 ·obtain rfl : d = _ := by simpa using hd
  rw [List.map_eq_nil_iff, List.filter_eq_nil_iff]
  intro s hs
  have := h.lt s hs
  simp only [decide_eq_true_eq]
  omega
theorem askG_id (K : Dk) (id who code now kind : Int) : ∀ (l : List Dv) (i : Nat), (askG K id who code now kind l i).2.2 = 0 → ∃ j : Nat, (askG K id who code now kind l i).1 = ((i + j : Nat) : Int) ∧ j < l.length ∧ (gD l j).id = id
 | [], i, h => by simp [askG] at h
 | d :: l, i, h => by
  rw [askG] at h ⊢
  by_cases e : d.id = id
  ·rw [if_neg (by simp [e])] at h ⊢
   split at h
   ·simp at h
   rename_i h1
   rw [if_neg h1]
   split at h
   ·simp at h
   rename_i h2
   rw [if_neg h2]
   split at h
   ·simp at h
   rename_i h3
   rw [if_neg h3]
   exact ⟨0, by simp, by simp, e⟩
  ·rw [if_pos e] at h ⊢
   obtain ⟨j, h1, h2, h3⟩ := askG_id K id who code now kind l (i + 1) h
   exact ⟨j + 1, by rw [h1]; congr 1; omega, by simp; omega, by simpa [gD] using h3⟩
theorem SI.sgn {K : Dk} {L : List (Int × Int)} (h : SI K L) {id who code now : Int} (he : (sgnS K id who code now).2 = 0) : SI (sgnS K id who code now).1 (L ++ [(id, who)]) := by
 simp only [sgnS] at he ⊢
 split
 ·rename_i h1; rw [if_pos h1] at he; exact absurd he h1
 rename_i h1
 rw [if_neg h1] at he
 split
 ·rename_i h2; rw [if_pos h2] at he; simp at he
 rename_i h2
 rw [if_neg h2] at he
 split
 ·rename_i h3; rw [if_pos h3] at he; exact absurd he h3
 have h1 : (askS K id who code now 1).2.2 = 0 := by simpa using h1
 have hc := askS_chk h1
 have ha : askS K id who code now 1 = askG K id who code now 1 K.ds 0 := by rw [askS, if_neg (by simp [hc])]
 obtain ⟨j, hj1, hj2, hj3⟩ := askG_id K id who code now 1 K.ds 0 (by rw [← ha]; exact h1)
 rw [ha, hj1]
 rw [show ((0 + j : Nat) : Int).toNat = j by omega]
 have hok := (okD_iff K j).1 (ds_ok hc hj2)
 rw [hj3] at hok
 refine ⟨fun d hd => ?_, fun s hs => ?_⟩
 ·rw [List.filter_append, List.map_append]
  obtain ⟨i, hi⟩ := List.getElem?_of_mem hd
  rw [List.getElem?_set] at hi
  split at hi
  ·rename_i e
   obtain rfl := Option.some.inj hi
   have := h.sg _ (List.mem_of_getElem? (gD_get hj2))
   simp only [hj3] at this ⊢
   rw [this]
   simp
  ·rename_i e
   have hil := (List.getElem?_eq_some_iff.1 hi).1
   have hne := ds_ne hc hil hj2 (fun h => e h.symm)
   rw [gD_get hil] at hi
   obtain rfl := Option.some.inj hi
   rw [h.sg _ (List.mem_of_getElem? (gD_get hil))]
   rw [hj3] at hne
   rw [List.filter_cons_of_neg (by simp; exact fun e => hne e.symm)]
   simp
 ·rcases List.mem_append.1 hs with hs | hs
  ·exact h.lt s hs
  ·simp at hs; subst hs; exact hok.1.2
theorem flat_roles {K : Dk} {x : Dv} (hc : chkD K = true) : ∀ (L : List (Int × Int)), (∀ w ∈ (L.filter fun s => decide (s.1 = x.id)).map Prod.snd, (prsS K w).2 = true) → rolT K x L = rolesS K ((L.filter fun s => decide (s.1 = x.id)).map Prod.snd)
 | [], _ => rfl
 | s :: L, h => by
  rw [rolT, List.flatMap_cons]
  by_cases e : s.1 = x.id
  ·rw [List.filter_cons_of_pos (by simp [e])] at h ⊢
   rw [if_pos e, rolP_one hc (h s.2 (by simp)), List.map_cons, rolesS, List.map_cons, List.singleton_append]
   congr 1
   exact flat_roles hc L fun w hw => h w (by simp at hw ⊢; exact .inr hw)
  ·rw [List.filter_cons_of_neg (by simp [e])] at h ⊢
   rw [if_neg e, List.nil_append]
   exact flat_roles hc L h
theorem two_law {K : Dk} {L : List (Int × Int)} (h : SI K L) {site time : Int} (hi : (infS K site time).2 = true) : twoS K (infS K site time).1 L = true := by
 unfold infS at hi ⊢
 cases hc : chkD K
 ·rw [hc, if_pos rfl] at hi; cases hi
 rw [hc] at hi
 simp only [Bool.true_eq_false, if_false] at hi ⊢
 cases hf : K.ds.reverse.find? (hitD site time) with
 | none => rw [hf] at hi; cases hi
 | some d =>
  have hd := List.mem_reverse.1 (List.mem_of_find?_eq_some hf)
  have hh := List.find?_some hf
  simp only [hitD, Bool.and_eq_true, decide_eq_true_eq] at hh
  have hl2 : d.sg.length = 2 := hh.1.1.1.2
  have hr := chkD_rgt hc hd
  rw [rgt_eq, Bool.and_eq_true] at hr
  have hs := hr.2
  simp only [sgdS, Bool.and_eq_true, Bool.or_eq_true, decide_eq_true_eq, List.all_eq_true] at hs
  have hsg := h.sg d hd
  have hfl := flat_roles (x := d) hc L (by rw [hsg]; exact hs.1.2)
  rw [hsg] at hfl
  simp only [twoS]
  rw [hfl, Bool.and_eq_true]
  refine ⟨by simp [rolesS, hl2], ?_⟩
  rcases hs.2 with h3 | h3
  ·omega
  ·exact h3
theorem ZL.one {Z : AV} {K : Dk} (h : ZL Z K) : Z.cells.all AV.one = true ∧ Z.cells.take 3 = Z.cells ∧ AV.agg Z.cells = Z := by
 rcases h with rfl | ⟨ps, rfl, rfl⟩ <;> exact ⟨rfl, rfl, rfl⟩
set_option maxHeartbeats 8000000 in
theorem ok_law26_DeviationTwo (t : List Int) : PC prog n_law26_DeviationTwo [.list 1 (ints t)] (.bool true) := by
 refine PC_of_body b_law26_DeviationTwo (by simp) ?_
 simp only [c_law26_DeviationTwo, go_sem, jA, jB, jC, jD, jE, jF, jG, jH, jI, jJ, ↓reduceIte, reduceCtorEq, jP]
 try simp (disch := omega) only [go_sem, jA, jB, jC, jD, jE, jF, jG, jH, jI, jJ, ↓reduceIte, reduceCtorEq, jO, jM, jN, jK, jL]
 refine call_pc ok_law26_sane (by simp) ?_
 try simp (disch := omega) only [go_sem, jA, jB, jC, jD, jE, jF, jG, jH, jI, jJ, ↓reduceIte, reduceCtorEq, jO, jM, jN, jK, jL]
 refine call_pc (ok_mk_Few t) (by simp [go_sem]) ?_
 try simp (disch := omega) only [go_sem, jA, jB, jC, jD, jE, jF, jG, jH, jI, jJ, ↓reduceIte, reduceCtorEq, jO, jM, jN, jK, jL]
 cases hfew : fewB t
 ·try simp (disch := omega) only [go_sem, jA, jB, jC, jD, jE, jF, jG, jH, jI, jJ, ↓reduceIte, reduceCtorEq, jO, jM, jN, jK, jL]
  exact Pub.of_eq rfl rfl
 have hlt : t.length ≤ 9223372036854775807 := by simp [fewB] at hfew; omega
 try simp (disch := omega) only [go_sem, jA, jB, jC, jD, jE, jF, jG, jH, jI, jJ, ↓reduceIte, reduceCtorEq, jO, jM, jN, jK, jL]
 refine call_hc (ok_mk_New _ t) ?_
 try simp (disch := omega) only [go_sem, jA, jB, jC, jD, jE, jF, jG, jH, jI, jJ, ↓reduceIte, reduceCtorEq, jO, jM, jN, jK, jL]
 refine (hc_flow_People _ 0 0 t 0 hlt (by simp only [St.push]; omega) (by try simp (disch := omega) only [go_sem, jA, jB, jC, jD, jE, jF, jG, jH, jI, jJ, ↓reduceIte, reduceCtorEq, jO, jM, jN, jK, jL])).mono ?_
 intro r τ hD
 obtain ⟨⟨ps, rfl, hps, hpb⟩, hn, ⟨at1, hd1⟩, -⟩ := hD.use (by simp only [St.push]; omega)
 obtain ⟨ob, m, c0⟩ := τ
 simp only [St.push] at hn hd1
 subst hn
 clear hD
 have hB0 : DkB ⟨ps, 1, []⟩ := ⟨by simp only; omega, by simp, fun p hp => by have := hpb p hp; omega, fun d hd => by simp at hd⟩
 have hZ0 : ZL (.agg [.list 3 (pns ps), .int .i64 1, .nil]) ⟨ps, 1, []⟩ := .inr ⟨ps, rfl, rfl⟩
 have hI0 := SI.start ps
 try simp (disch := omega) only [go_sem, jA, jB, jC, jD, jE, jF, jG, jH, jI, jJ, ↓reduceIte, reduceCtorEq, jO, jM, jN, jK, jL]
 refine awp_upG [2, 5, 6, 7, 8, 9, 10, 11, 12, 13, 14, 15, 16, 17, 28, 29, 30, 31, 32, 33, 34, 35, 36, 37, 38, 39, 40, 41, 42, 43, 44, 45, 46, 47, 48, 49, 50, 51, 52, 53, 54, 55, 56, 57, 58, 59, 60, 61, 62, 63, 64, 65, 66, 67, 68, 69, 70, 71, 72, 73, 74, 75, 76, 77, 78, 79, 80, 81, 82, 83, 84, 85, 86, 87, 88, 89, 90, 91, 92, 93, 94, 95, 96, 97, 98] (by kernel_rfl) 14 (fun now e σ => e 6 = .int .i64 now ∧ 2 ≤ σ.n ∧ (∃ a, σ.ob 0 = some ⟨0, 2, ty_Deck, false, true, [deckV t a]⟩) ∧ ∃ K Z L Y, σ.ob 1 = some ⟨c0, 3, 31, false, true, [Z]⟩ ∧ ZL Z K ∧ DkB K ∧ SI K L ∧ L.length ≤ now ∧ At e 5 Y ∧ SlR 2 41 σ (prs L) Y ∧ Oth Y 0 ∧ Oth Y 1) ?_ ?_
 ·exact ⟨(by first | rfl | (simp (disch := omega) only [go_sem, jA, jB, jC, jD, jE, jF, jG, jH, jI, jJ, ↓reduceIte, reduceCtorEq, jP, jO, jM, jN]; try rfl)), Nat.le_refl _, ⟨at1, by try simp (disch := omega) only [go_sem, jA, jB, jC, jD, jE, jF, jG, jH, jI, jJ, ↓reduceIte, reduceCtorEq, jO, jM, jN, jK, jL]; exact hd1⟩, _, _, [], .nil, by try simp (disch := omega) only [go_sem, jA, jB, jC, jD, jE, jF, jG, jH, jI, jJ, ↓reduceIte, reduceCtorEq, jO, jM, jN, jK, jL], hZ0, hB0, hI0, by simp, (by simp only [At]; try simp (disch := omega) only [go_sem, jA, jB, jC, jD, jE, jF, jG, jH, jI, jJ, ↓reduceIte, reduceCtorEq, jO, jM, jN, jK, jL]), SlR.nil, Oth.nil _, Oth.nil _⟩
 clear hB0 hZ0 hI0 hps hpb hd1
 rintro now fe ob1 m c hnow hm ⟨h6, hm1, ⟨at2, v0⟩, K, Z, L, Y, v1, hZ, hB, hI, hLl, h5, hY, hY0, hY1⟩
 simp (maxSteps := 1000000) only [go_sem, jA, jB, jC, jD, jE, jF, jG, jH, jI, jJ, ↓reduceIte, reduceCtorEq, jP, At] at h6 hm hm1 v0 v1 h5
 try simp (disch := omega) only [go_sem, jA, jB, jC, jD, jE, jF, jG, jH, jI, jJ, ↓reduceIte, reduceCtorEq, jO, jM, jN, jK, jL, h6]
 refine cond_d (fun hlt1 => ?_) (fun hge1 => ?_)
 ·have hnl : now < 14 := by omega
  obtain ⟨f1, f2, f3, f4⟩ := hZ.flat
  obtain ⟨f5, f6, f7⟩ := hZ.one
  have z1 : ¬ 1 = m := by omega
  have z0 : ¬ 0 = m := by omega
  try simp (disch := omega) only [go_sem, jA, jB, jC, jD, jE, jF, jG, jH, jI, jJ, ↓reduceIte, reduceCtorEq, jO, jM, jN, jK, jL]
  refine call_hc (ok_mk_Deck_Next _ 0 0 ty_Deck true t at2 3 v0 (by omega) hlt) ?_
  generalize deckR t at2 3 = dr at *
  obtain ⟨x33, at3⟩ := dr
  try simp (disch := omega) only [go_sem, jA, jB, jC, jD, jE, jF, jG, jH, jI, jJ, ↓reduceIte, reduceCtorEq, jO, jM, jN, jK, jL]
  refine cond_d (fun hc4 => ?_) (fun hc4 => ?_)
  ·try simp (disch := omega) only [go_sem, jA, jB, jC, jD, jE, jF, jG, jH, jI, jJ, ↓reduceIte, reduceCtorEq, jO, jM, jN, jK, jL, h6, v1, f1, f2, f3, f4, f5, f6, f7]
   refine call_hc (ok_mk_Deck_Next _ 0 0 ty_Deck true t at3 2 (by try simp (disch := omega) only [go_sem, jA, jB, jC, jD, jE, jF, jG, jH, jI, jJ, ↓reduceIte, reduceCtorEq, jO, jM, jN, jK, jL]) (by omega) hlt) ?_
   have hx1 := deckR_bd t at3 2
   generalize deckR t at3 2 = dr at *
   obtain ⟨xa, at4⟩ := dr
   simp only at hx1
   try simp (maxSteps := 500001) (disch := omega) only [go_sem, jA, jB, jC, jD, jE, jF, jG, jH, jI, jJ, ↓reduceIte, reduceCtorEq, jO, jM, jN, jK, jL, v1, f1, f2, f3, f4, f5, f6, f7, h6]
   refine call_hc (ok_mk_Deck_Next _ 0 0 ty_Deck true t at4 6 (by try simp (disch := omega) only [go_sem, jA, jB, jC, jD, jE, jF, jG, jH, jI, jJ, ↓reduceIte, reduceCtorEq, jO, jM, jN, jK, jL]) (by omega) hlt) ?_
   have hx2 := deckR_bd t at4 6
   generalize deckR t at4 6 = dr at *
   obtain ⟨xb, at5⟩ := dr
   simp only at hx2
   try simp (maxSteps := 500001) (disch := omega) only [go_sem, jA, jB, jC, jD, jE, jF, jG, jH, jI, jJ, ↓reduceIte, reduceCtorEq, jO, jM, jN, jK, jL, v1, f1, f2, f3, f4, f5, f6, f7, h6]
   refine call_hc (ok_mk_Deck_Next _ 0 0 ty_Deck true t at5 40 (by try simp (disch := omega) only [go_sem, jA, jB, jC, jD, jE, jF, jG, jH, jI, jJ, ↓reduceIte, reduceCtorEq, jO, jM, jN, jK, jL]) (by omega) hlt) ?_
   have hx3 := deckR_bd t at5 40
   generalize deckR t at5 40 = dr at *
   obtain ⟨xc, at6⟩ := dr
   simp only at hx3
   try simp (maxSteps := 500001) (disch := omega) only [go_sem, jA, jB, jC, jD, jE, jF, jG, jH, jI, jJ, ↓reduceIte, reduceCtorEq, jO, jM, jN, jK, jL, v1, f1, f2, f3, f4, f5, f6, f7, h6]
   have r1 := pc_nl (ok_deviation_Request K hB.s xa now (now + xb) xc) (.cons hZ.nlr (NlRs.refl _))
   have r2 := fun h => hI.req (site := xa) (fr := now) (to := now + xb) (rel := xc) h
   have r3 := reqS_b hB xa now (now + xb) xc
   refine call_pc r1 (by simp [hZ.pur, go_sem]) ?_
   generalize reqS K xa now (now + xb) xc = R at *
   obtain ⟨R1, R2, R3⟩ := R
   simp only at r2 r3
   try simp (maxSteps := 500001) (disch := omega) only [go_sem, jA, jB, jC, jD, jE, jF, jG, jH, jI, jJ, ↓reduceIte, reduceCtorEq, jO, jM, jN, jK, jL, z1, dkv_flat, dkv_len, dkv_tk, dkv_dt, dkv_ct, dkv_ca]
   refine cond_d (fun hc5 => ?_) (fun hc5 => ?_)
   ·have hI2 := r2 hc5
    have hZ2 : ZL (dkv R1) R1 := .inl rfl
    have hput : setc 0 (dkv R1) Z = dkv R1 := hZ.put R1
    try simp (maxSteps := 500001) (disch := omega) only [go_sem, jA, jB, jC, jD, jE, jF, jG, jH, jI, jJ, ↓reduceIte, reduceCtorEq, jO, jM, jN, jK, jL, v1, z1, z0, f1, f2, f3, f4, f5, f6, f7, dkv_flat, dkv_len, dkv_tk, dkv_dt, dkv_ct, dkv_ca, hput]
    refine ⟨dkv_one R1, ?_⟩
    refine awp_upG [2, 15, 16, 17, 80, 81, 82, 83, 84, 85, 86, 87, 88, 89, 90, 91, 92, 93, 94, 95, 96, 97, 98] (by kernel_rfl) 2 (fun j e σ => e 15 = .int .i64 j ∧ 2 ≤ σ.n ∧ (∃ a, σ.ob 0 = some ⟨0, 2, ty_Deck, false, true, [deckV t a]⟩) ∧ σ.ob 1 = some ⟨c0, 3, 31, false, true, [(dkv R1)]⟩ ∧ SlR 2 41 σ (prs L) Y) ?_ ?_
    ·exact ⟨(by first | rfl | (simp (disch := omega) only [go_sem, jA, jB, jC, jD, jE, jF, jG, jH, jI, jJ, ↓reduceIte, reduceCtorEq, jP, jO, jM, jN]; try rfl)), by simp only; omega, ⟨at6, by try simp (disch := omega) only [go_sem, jA, jB, jC, jD, jE, jF, jG, jH, jI, jJ, ↓reduceIte, reduceCtorEq, jO, jM, jN, jK, jL, z0]⟩, by try simp (disch := omega) only [go_sem, jA, jB, jC, jD, jE, jF, jG, jH, jI, jJ, ↓reduceIte, reduceCtorEq, jO, jM, jN, jK, jL, z1], hY.move (by simp only; omega) fun k hk hh => by
     have n0 : k ≠ 0 := fun e => hh (e ▸ hY0)
     have n1 : k ≠ 1 := fun e => hh (e ▸ hY1)
     simp only at hk ⊢
     repeat rw [upd_ne _ _ _ _ (by omega)]⟩
    rintro j fe9 ob9 q9 c9 hj9 hq9 ⟨hjj, hq8, ⟨at9, y0⟩, y1, hY9⟩
    simp (maxSteps := 1000000) only [go_sem, jA, jB, jC, jD, jE, jF, jG, jH, jI, jJ, ↓reduceIte, reduceCtorEq, jP] at hjj hq9 hq8 y0 y1
    try simp (maxSteps := 500001) (disch := omega) only [go_sem, jA, jB, jC, jD, jE, jF, jG, jH, jI, jJ, ↓reduceIte, reduceCtorEq, jO, jM, jN, jK, jL, hjj]
    refine cond_d (fun hlt9 => ?_) (fun hge9 => ?_)
    ·have hjl : j < 2 := by omega
     have b1 := pc_nl (ok_deviation_InForce R1 r3.s (j : Int) (now : Int)) (.cons hZ2.nlr (NlRs.refl _))
     have b2 := fun (h : (infS R1 (j : Int) (now : Int)).2 = true) => two_law hI2 h
     have b3 := ok_law26_two R1 (infS R1 (j : Int) (now : Int)).1 L (by omega) (by have := r3.lp; omega)
     generalize infS R1 (j : Int) (now : Int) = R at *
     obtain ⟨R1, R2⟩ := R
     have zq : ¬ 1 = q9 := by omega
     obtain ⟨f1, f2, f3, f4⟩ := hZ2.flat
     obtain ⟨f5, f6, f7⟩ := hZ2.one
     try simp (maxSteps := 500001) (disch := omega) only [go_sem, jA, jB, jC, jD, jE, jF, jG, jH, jI, jJ, ↓reduceIte, reduceCtorEq, jO, jM, jN, jK, jL, hjj, y1, zq, f1, f2, f3, f4, f5, f6, f7, h6, h5]
     refine call_pc b1 (by simp [hZ2.pur, go_sem]) ?_
     try simp (maxSteps := 500001) (disch := omega) only [go_sem, jA, jB, jC, jD, jE, jF, jG, jH, jI, jJ, ↓reduceIte, reduceCtorEq, jO, jM, jN, jK, jL, y1, zq, f1, f2, f3, f4, f5, f6, f7, dvv_flat, dvv_len, dvv_tk, dvv_dt, dvv_ct, dvv_ca]
     cases R2
     ·try simp (disch := omega) only [go_sem, jA, jB, jC, jD, jE, jF, jG, jH, jI, jJ, ↓reduceIte, reduceCtorEq, jO, jM, jN, jK, jL, hjj]
      refine up_nextG q9 hjl (by omega) ⟨(by first | rfl | (simp (disch := omega) only [go_sem, jA, jB, jC, jD, jE, jF, jG, jH, jI, jJ, ↓reduceIte, reduceCtorEq, jP, jO, jM, jN]; try rfl)), by simp only [St.trunc]; omega, ⟨at9, ?_⟩, ?_, ?_⟩
      ·simp only [St.trunc]; rw [if_pos (by omega), upd_ne _ _ _ _ (by omega), upd_ne _ _ _ _ (by omega)]; exact y0
      ·simp only [St.trunc]; rw [if_pos (by omega), upd_ne _ _ _ _ (by omega), upd_ne _ _ _ _ (by omega)]; exact y1
      ·exact hY9.move (by simp only [St.trunc]; omega) fun k hk _ => by simp only at hk; simp only [St.trunc]; rw [if_pos hk, upd_ne _ _ _ _ (by omega), upd_ne _ _ _ _ (by omega)]
     ·have b2 := b2 rfl
      simp only at b2 b3
      rw [b2] at b3
      try simp (maxSteps := 500001) (disch := omega) only [go_sem, jA, jB, jC, jD, jE, jF, jG, jH, jI, jJ, ↓reduceIte, reduceCtorEq, jO, jM, jN, jK, jL, y1, zq, f1, f2, f3, f4, f5, f6, f7, dvv_flat, dvv_len, dvv_tk, dvv_dt, dvv_ct, dvv_ca, h5]
      refine call_lent b3 (.cons hZ2.pub (.cons (Pub.e (dvv_pur _)) (.cons (hY9.pub (fun k hk _ => by simp only at hk ⊢; rw [upd_ne _ _ _ _ (by omega), upd_ne _ _ _ _ (by omega)]) (prs_pur _) (prs_ok _)) .nil))) rfl ?_
      try simp (maxSteps := 500001) (disch := omega) only [go_sem, jA, jB, jC, jD, jE, jF, jG, jH, jI, jJ, ↓reduceIte, reduceCtorEq, jO, jM, jN, jK, jL, hjj]
      refine up_nextG q9 hjl (by omega) ⟨(by first | rfl | (simp (disch := omega) only [go_sem, jA, jB, jC, jD, jE, jF, jG, jH, jI, jJ, ↓reduceIte, reduceCtorEq, jP, jO, jM, jN]; try rfl)), by simp only [St.trunc]; omega, ⟨at9, ?_⟩, ?_, ?_⟩
      ·simp only [St.trunc]; rw [if_pos (by omega), upd_ne _ _ _ _ (by omega), upd_ne _ _ _ _ (by omega)]; exact y0
      ·simp only [St.trunc]; rw [if_pos (by omega), upd_ne _ _ _ _ (by omega), upd_ne _ _ _ _ (by omega)]; exact y1
      ·exact hY9.move (by simp only [St.trunc]; omega) fun k hk _ => by simp only at hk; simp only [St.trunc]; rw [if_pos hk, upd_ne _ _ _ _ (by omega), upd_ne _ _ _ _ (by omega)]
    try simp (maxSteps := 500001) (disch := omega) only [go_sem, jA, jB, jC, jD, jE, jF, jG, jH, jI, jJ, ↓reduceIte, reduceCtorEq, jO, jM, jN, jK, jL, h6]
    exact up_nextG q9 hnl (by omega) ⟨(by first | rfl | (simp (disch := omega) only [go_sem, jA, jB, jC, jD, jE, jF, jG, jH, jI, jJ, ↓reduceIte, reduceCtorEq, jP, jO, jM, jN]; try rfl)), by simp only [St.trunc]; omega, ⟨at9, by simp only [St.trunc]; rw [if_pos (by omega)]; exact y0⟩, R1, (dkv R1), L, Y, by simp only [St.trunc]; rw [if_pos (by omega)]; exact y1, hZ2, r3, hI2, by omega, (by simp only [At]; try simp (disch := omega) only [go_sem, jA, jB, jC, jD, jE, jF, jG, jH, jI, jJ, ↓reduceIte, reduceCtorEq, jO, jM, jN, jK, jL, h5]), hY9.tr, hY0, hY1⟩
   ·try simp (disch := omega) only [go_sem, jA, jB, jC, jD, jE, jF, jG, jH, jI, jJ, ↓reduceIte, reduceCtorEq, jO, jM, jN, jK, jL]
    refine awp_upG [2, 15, 16, 17, 80, 81, 82, 83, 84, 85, 86, 87, 88, 89, 90, 91, 92, 93, 94, 95, 96, 97, 98] (by kernel_rfl) 2 (fun j e σ => e 15 = .int .i64 j ∧ 2 ≤ σ.n ∧ (∃ a, σ.ob 0 = some ⟨0, 2, ty_Deck, false, true, [deckV t a]⟩) ∧ σ.ob 1 = some ⟨c0, 3, 31, false, true, [Z]⟩ ∧ SlR 2 41 σ (prs L) Y) ?_ ?_
    ·exact ⟨(by first | rfl | (simp (disch := omega) only [go_sem, jA, jB, jC, jD, jE, jF, jG, jH, jI, jJ, ↓reduceIte, reduceCtorEq, jP, jO, jM, jN]; try rfl)), by simp only; omega, ⟨at6, by try simp (disch := omega) only [go_sem, jA, jB, jC, jD, jE, jF, jG, jH, jI, jJ, ↓reduceIte, reduceCtorEq, jO, jM, jN, jK, jL, z0]⟩, by try simp (disch := omega) only [go_sem, jA, jB, jC, jD, jE, jF, jG, jH, jI, jJ, ↓reduceIte, reduceCtorEq, jO, jM, jN, jK, jL, z1, v1], hY.move (by simp only; omega) fun k hk hh => by
     have n0 : k ≠ 0 := fun e => hh (e ▸ hY0)
     simp only at hk ⊢
     repeat rw [upd_ne _ _ _ _ (by omega)]⟩
    rintro j fe9 ob9 q9 c9 hj9 hq9 ⟨hjj, hq8, ⟨at9, y0⟩, y1, hY9⟩
    simp (maxSteps := 1000000) only [go_sem, jA, jB, jC, jD, jE, jF, jG, jH, jI, jJ, ↓reduceIte, reduceCtorEq, jP] at hjj hq9 hq8 y0 y1
    try simp (maxSteps := 500001) (disch := omega) only [go_sem, jA, jB, jC, jD, jE, jF, jG, jH, jI, jJ, ↓reduceIte, reduceCtorEq, jO, jM, jN, jK, jL, hjj]
    refine cond_d (fun hlt9 => ?_) (fun hge9 => ?_)
    ·have hjl : j < 2 := by omega
     have b1 := pc_nl (ok_deviation_InForce K hB.s (j : Int) (now : Int)) (.cons hZ.nlr (NlRs.refl _))
     have b2 := fun (h : (infS K (j : Int) (now : Int)).2 = true) => two_law hI h
     have b3 := ok_law26_two K (infS K (j : Int) (now : Int)).1 L (by omega) (by have := hB.lp; omega)
     generalize infS K (j : Int) (now : Int) = R at *
     obtain ⟨R1, R2⟩ := R
     have zq : ¬ 1 = q9 := by omega
     obtain ⟨f1, f2, f3, f4⟩ := hZ.flat
     obtain ⟨f5, f6, f7⟩ := hZ.one
     try simp (maxSteps := 500001) (disch := omega) only [go_sem, jA, jB, jC, jD, jE, jF, jG, jH, jI, jJ, ↓reduceIte, reduceCtorEq, jO, jM, jN, jK, jL, hjj, y1, zq, f1, f2, f3, f4, f5, f6, f7, h6, h5]
     refine call_pc b1 (by simp [hZ.pur, go_sem]) ?_
     try simp (maxSteps := 500001) (disch := omega) only [go_sem, jA, jB, jC, jD, jE, jF, jG, jH, jI, jJ, ↓reduceIte, reduceCtorEq, jO, jM, jN, jK, jL, y1, zq, f1, f2, f3, f4, f5, f6, f7, dvv_flat, dvv_len, dvv_tk, dvv_dt, dvv_ct, dvv_ca]
     cases R2
     ·try simp (disch := omega) only [go_sem, jA, jB, jC, jD, jE, jF, jG, jH, jI, jJ, ↓reduceIte, reduceCtorEq, jO, jM, jN, jK, jL, hjj]
      refine up_nextG q9 hjl (by omega) ⟨(by first | rfl | (simp (disch := omega) only [go_sem, jA, jB, jC, jD, jE, jF, jG, jH, jI, jJ, ↓reduceIte, reduceCtorEq, jP, jO, jM, jN]; try rfl)), by simp only [St.trunc]; omega, ⟨at9, ?_⟩, ?_, ?_⟩
      ·simp only [St.trunc]; rw [if_pos (by omega), upd_ne _ _ _ _ (by omega), upd_ne _ _ _ _ (by omega)]; exact y0
      ·simp only [St.trunc]; rw [if_pos (by omega), upd_ne _ _ _ _ (by omega), upd_ne _ _ _ _ (by omega)]; exact y1
      ·exact hY9.move (by simp only [St.trunc]; omega) fun k hk _ => by simp only at hk; simp only [St.trunc]; rw [if_pos hk, upd_ne _ _ _ _ (by omega), upd_ne _ _ _ _ (by omega)]
     ·have b2 := b2 rfl
      simp only at b2 b3
      rw [b2] at b3
      try simp (maxSteps := 500001) (disch := omega) only [go_sem, jA, jB, jC, jD, jE, jF, jG, jH, jI, jJ, ↓reduceIte, reduceCtorEq, jO, jM, jN, jK, jL, y1, zq, f1, f2, f3, f4, f5, f6, f7, dvv_flat, dvv_len, dvv_tk, dvv_dt, dvv_ct, dvv_ca, h5]
      refine call_lent b3 (.cons hZ.pub (.cons (Pub.e (dvv_pur _)) (.cons (hY9.pub (fun k hk _ => by simp only at hk ⊢; rw [upd_ne _ _ _ _ (by omega), upd_ne _ _ _ _ (by omega)]) (prs_pur _) (prs_ok _)) .nil))) rfl ?_
      try simp (maxSteps := 500001) (disch := omega) only [go_sem, jA, jB, jC, jD, jE, jF, jG, jH, jI, jJ, ↓reduceIte, reduceCtorEq, jO, jM, jN, jK, jL, hjj]
      refine up_nextG q9 hjl (by omega) ⟨(by first | rfl | (simp (disch := omega) only [go_sem, jA, jB, jC, jD, jE, jF, jG, jH, jI, jJ, ↓reduceIte, reduceCtorEq, jP, jO, jM, jN]; try rfl)), by simp only [St.trunc]; omega, ⟨at9, ?_⟩, ?_, ?_⟩
      ·simp only [St.trunc]; rw [if_pos (by omega), upd_ne _ _ _ _ (by omega), upd_ne _ _ _ _ (by omega)]; exact y0
      ·simp only [St.trunc]; rw [if_pos (by omega), upd_ne _ _ _ _ (by omega), upd_ne _ _ _ _ (by omega)]; exact y1
      ·exact hY9.move (by simp only [St.trunc]; omega) fun k hk _ => by simp only at hk; simp only [St.trunc]; rw [if_pos hk, upd_ne _ _ _ _ (by omega), upd_ne _ _ _ _ (by omega)]
    try simp (maxSteps := 500001) (disch := omega) only [go_sem, jA, jB, jC, jD, jE, jF, jG, jH, jI, jJ, ↓reduceIte, reduceCtorEq, jO, jM, jN, jK, jL, h6]
    exact up_nextG q9 hnl (by omega) ⟨(by first | rfl | (simp (disch := omega) only [go_sem, jA, jB, jC, jD, jE, jF, jG, jH, jI, jJ, ↓reduceIte, reduceCtorEq, jP, jO, jM, jN]; try rfl)), by simp only [St.trunc]; omega, ⟨at9, by simp only [St.trunc]; rw [if_pos (by omega)]; exact y0⟩, K, Z, L, Y, by simp only [St.trunc]; rw [if_pos (by omega)]; exact y1, hZ, hB, hI, by omega, (by simp only [At]; try simp (disch := omega) only [go_sem, jA, jB, jC, jD, jE, jF, jG, jH, jI, jJ, ↓reduceIte, reduceCtorEq, jO, jM, jN, jK, jL, h5]), hY9.tr, hY0, hY1⟩
  ·try simp (disch := omega) only [go_sem, jA, jB, jC, jD, jE, jF, jG, jH, jI, jJ, ↓reduceIte, reduceCtorEq, jO, jM, jN, jK, jL, v1, f1, f2, f3, f4, f5, f6, f7, h6]
   refine (hc_flow_SignedZ _ 0 0 t at3 K Z hZ hB now hlt (by simp only; omega) (by try simp (disch := omega) only [go_sem, jA, jB, jC, jD, jE, jF, jG, jH, jI, jJ, ↓reduceIte, reduceCtorEq, jO, jM, jN, jK, jL])).mono ?_
   intro r τ hD
   obtain ⟨⟨sa, sb', sc, rfl, hsa⟩, hn, ⟨at4, w0⟩, hf⟩ := hD.use (by simp only; omega)
   obtain ⟨ob3, m3, c3⟩ := τ
   simp only at hn w0 hf
   subst hn
   clear hD
   have w1 := hf 1 (by omega) (by omega)
   try simp (maxSteps := 500001) (disch := omega) only [go_sem, jA, jB, jC, jD, jE, jF, jG, jH, jI, jJ, ↓reduceIte, reduceCtorEq, jO, jM, jN, jK, jL, v1] at w1
   have hY3 : SlR 2 41 ⟨ob3, m3, c3⟩ (prs L) Y := hY.move (Nat.le_refl _) fun k hk hh => by
    have : k ≠ 0 := fun e => hh (e ▸ hY0)
    simp only at hk ⊢
    rw [hf k hk this, upd_ne _ _ _ _ this]
   try simp (maxSteps := 500001) (disch := omega) only [go_sem, jA, jB, jC, jD, jE, jF, jG, jH, jI, jJ, ↓reduceIte, reduceCtorEq, jO, jM, jN, jK, jL, w1, f1, f2, f3, f4, f5, f6, f7, h6]
   have r1 := pc_nl (ok_deviation_Sign K hB.s sa sb' sc now) (.cons hZ.nlr (NlRs.refl _))
   have r2 := fun h => hI.sgn (id := sa) (who := sb') (code := sc) (now := now) h
   have r3 := sgnS_b hB sa sb' sc now
   refine call_pc r1 (by simp [hZ.pur, go_sem]) ?_
   generalize sgnS K sa sb' sc now = R at *
   obtain ⟨R1, R2⟩ := R
   simp only at r2 r3
   try simp (maxSteps := 500001) (disch := omega) only [go_sem, jA, jB, jC, jD, jE, jF, jG, jH, jI, jJ, ↓reduceIte, reduceCtorEq, jO, jM, jN, jK, jL, z1, dkv_flat, dkv_len, dkv_tk, dkv_dt, dkv_ct, dkv_ca]
   refine cond_d (fun hc5 => ?_) (fun hc5 => ?_)
   ·have hI2 := r2 hc5
    have hZ2 : ZL (dkv R1) R1 := .inl rfl
    have hput : setc 0 (dkv R1) Z = dkv R1 := hZ.put R1
    try simp (maxSteps := 500001) (disch := omega) only [go_sem, jA, jB, jC, jD, jE, jF, jG, jH, jI, jJ, ↓reduceIte, reduceCtorEq, jO, jM, jN, jK, jL, w1, z1, z0, h5, f1, f2, f3, f4, f5, f6, f7, dkv_flat, dkv_len, dkv_tk, dkv_dt, dkv_ct, dkv_ca, hput]
    have hprs : prs (L ++ [(sa, sb')]) = prs L ++ [.agg [.int .i64 sa, .int .i64 sb']] := by simp [prs, prv]
    have hLl2 : (prs L).length ≤ 14 := by rw [prs_length]; omega
    have hYm : Oth Y m3 := hY3.oth (Nat.le_refl _)
    refine app_slr (b := 16) (hY3.move (by simp only; omega) fun k hk hh => by
     simp only at hk ⊢
     repeat rw [upd_ne _ _ _ _ (by omega)]) (by omega) (by omega) fun Y2 τ2 hY2 kY => ?_
    obtain ⟨ob7, m7, c7⟩ := τ2
    have q1 : m3 + 1 ≤ m7 := kY.1
    have q2 : ∀ k, k < m3 → Oth Y k → ob7 k = ob3 k := fun k hk ho => (kY.2.1 k (by simp only; omega) ho).trans (by simp only; repeat rw [upd_ne _ _ _ _ (by omega)])
    have x0 := (q2 0 (by omega) hY0).trans w0
    have x1 := (q2 1 (by omega) hY1).trans w1
    have xm := kY.2.1 m3 (by simp only; omega) hYm
    try simp (disch := omega) only [go_sem, jA, jB, jC, jD, jE, jF, jG, jH, jI, jJ, ↓reduceIte, reduceCtorEq, jO, jM, jN, jK, jL] at xm
    have o0 := kY.2.2 0 (by simp only; omega) hY0
    have o1 := kY.2.2 1 (by simp only; omega) hY1
    rw [← hprs] at hY2
    try simp (maxSteps := 500001) (disch := omega) only [go_sem, jA, jB, jC, jD, jE, jF, jG, jH, jI, jJ, ↓reduceIte, reduceCtorEq, jO, jM, jN, jK, jL, x1, xm, z1, z0, f1, f2, f3, f4, f5, f6, f7, dkv_flat, dkv_len, dkv_tk, dkv_dt, dkv_ct, dkv_ca, hput]
    refine awp_upG [2, 15, 16, 17, 80, 81, 82, 83, 84, 85, 86, 87, 88, 89, 90, 91, 92, 93, 94, 95, 96, 97, 98] (by kernel_rfl) 2 (fun j e σ => e 15 = .int .i64 j ∧ 2 ≤ σ.n ∧ (∃ a, σ.ob 0 = some ⟨0, 2, ty_Deck, false, true, [deckV t a]⟩) ∧ σ.ob 1 = some ⟨c0, 3, 31, false, true, [(dkv R1)]⟩ ∧ SlR 2 41 σ (prs (L ++ [(sa, sb')])) Y2) ?_ ?_
    ·exact ⟨(by first | rfl | (simp (disch := omega) only [go_sem, jA, jB, jC, jD, jE, jF, jG, jH, jI, jJ, ↓reduceIte, reduceCtorEq, jP, jO, jM, jN]; try rfl)), by simp only; omega, ⟨at4, by try simp (disch := omega) only [go_sem, jA, jB, jC, jD, jE, jF, jG, jH, jI, jJ, ↓reduceIte, reduceCtorEq, jO, jM, jN, jK, jL]; exact x0⟩, by try simp (disch := omega) only [go_sem, jA, jB, jC, jD, jE, jF, jG, jH, jI, jJ, ↓reduceIte, reduceCtorEq, jO, jM, jN, jK, jL, x1], hY2.move (by simp only; omega) fun k hk hh => by
     have n1 : k ≠ 1 := fun e => hh (e ▸ o1)
     simp only at hk ⊢
     repeat rw [upd_ne _ _ _ _ (by omega)]⟩
    rintro j fe9 ob9 q9 c9 hj9 hq9 ⟨hjj, hq8, ⟨at9, y0⟩, y1, hY9⟩
    simp (maxSteps := 1000000) only [go_sem, jA, jB, jC, jD, jE, jF, jG, jH, jI, jJ, ↓reduceIte, reduceCtorEq, jP] at hjj hq9 hq8 y0 y1
    try simp (maxSteps := 500001) (disch := omega) only [go_sem, jA, jB, jC, jD, jE, jF, jG, jH, jI, jJ, ↓reduceIte, reduceCtorEq, jO, jM, jN, jK, jL, hjj]
    refine cond_d (fun hlt9 => ?_) (fun hge9 => ?_)
    ·have hjl : j < 2 := by omega
     have b1 := pc_nl (ok_deviation_InForce R1 r3.s (j : Int) (now : Int)) (.cons hZ2.nlr (NlRs.refl _))
     have b2 := fun (h : (infS R1 (j : Int) (now : Int)).2 = true) => two_law hI2 h
     have b3 := ok_law26_two R1 (infS R1 (j : Int) (now : Int)).1 (L ++ [(sa, sb')]) (by simp; omega) (by have := r3.lp; omega)
     generalize infS R1 (j : Int) (now : Int) = R at *
     obtain ⟨R1, R2⟩ := R
     have zq : ¬ 1 = q9 := by omega
     obtain ⟨f1, f2, f3, f4⟩ := hZ2.flat
     obtain ⟨f5, f6, f7⟩ := hZ2.one
     try simp (maxSteps := 500001) (disch := omega) only [go_sem, jA, jB, jC, jD, jE, jF, jG, jH, jI, jJ, ↓reduceIte, reduceCtorEq, jO, jM, jN, jK, jL, hjj, y1, zq, f1, f2, f3, f4, f5, f6, f7, h6, h6]
     refine call_pc b1 (by simp [hZ2.pur, go_sem]) ?_
     try simp (maxSteps := 500001) (disch := omega) only [go_sem, jA, jB, jC, jD, jE, jF, jG, jH, jI, jJ, ↓reduceIte, reduceCtorEq, jO, jM, jN, jK, jL, y1, zq, f1, f2, f3, f4, f5, f6, f7, dvv_flat, dvv_len, dvv_tk, dvv_dt, dvv_ct, dvv_ca]
     cases R2
     ·try simp (disch := omega) only [go_sem, jA, jB, jC, jD, jE, jF, jG, jH, jI, jJ, ↓reduceIte, reduceCtorEq, jO, jM, jN, jK, jL, hjj]
      refine up_nextG q9 hjl (by omega) ⟨(by first | rfl | (simp (disch := omega) only [go_sem, jA, jB, jC, jD, jE, jF, jG, jH, jI, jJ, ↓reduceIte, reduceCtorEq, jP, jO, jM, jN]; try rfl)), by simp only [St.trunc]; omega, ⟨at9, ?_⟩, ?_, ?_⟩
      ·simp only [St.trunc]; rw [if_pos (by omega), upd_ne _ _ _ _ (by omega), upd_ne _ _ _ _ (by omega)]; exact y0
      ·simp only [St.trunc]; rw [if_pos (by omega), upd_ne _ _ _ _ (by omega), upd_ne _ _ _ _ (by omega)]; exact y1
      ·exact hY9.move (by simp only [St.trunc]; omega) fun k hk _ => by simp only at hk; simp only [St.trunc]; rw [if_pos hk, upd_ne _ _ _ _ (by omega), upd_ne _ _ _ _ (by omega)]
     ·have b2 := b2 rfl
      simp only at b2 b3
      rw [b2] at b3
      try simp (maxSteps := 500001) (disch := omega) only [go_sem, jA, jB, jC, jD, jE, jF, jG, jH, jI, jJ, ↓reduceIte, reduceCtorEq, jO, jM, jN, jK, jL, y1, zq, f1, f2, f3, f4, f5, f6, f7, dvv_flat, dvv_len, dvv_tk, dvv_dt, dvv_ct, dvv_ca, h6]
      refine call_lent b3 (.cons hZ2.pub (.cons (Pub.e (dvv_pur _)) (.cons (hY9.pub (fun k hk _ => by simp only at hk ⊢; rw [upd_ne _ _ _ _ (by omega), upd_ne _ _ _ _ (by omega)]) (prs_pur _) (prs_ok _)) .nil))) rfl ?_
      try simp (maxSteps := 500001) (disch := omega) only [go_sem, jA, jB, jC, jD, jE, jF, jG, jH, jI, jJ, ↓reduceIte, reduceCtorEq, jO, jM, jN, jK, jL, hjj]
      refine up_nextG q9 hjl (by omega) ⟨(by first | rfl | (simp (disch := omega) only [go_sem, jA, jB, jC, jD, jE, jF, jG, jH, jI, jJ, ↓reduceIte, reduceCtorEq, jP, jO, jM, jN]; try rfl)), by simp only [St.trunc]; omega, ⟨at9, ?_⟩, ?_, ?_⟩
      ·simp only [St.trunc]; rw [if_pos (by omega), upd_ne _ _ _ _ (by omega), upd_ne _ _ _ _ (by omega)]; exact y0
      ·simp only [St.trunc]; rw [if_pos (by omega), upd_ne _ _ _ _ (by omega), upd_ne _ _ _ _ (by omega)]; exact y1
      ·exact hY9.move (by simp only [St.trunc]; omega) fun k hk _ => by simp only at hk; simp only [St.trunc]; rw [if_pos hk, upd_ne _ _ _ _ (by omega), upd_ne _ _ _ _ (by omega)]
    try simp (maxSteps := 500001) (disch := omega) only [go_sem, jA, jB, jC, jD, jE, jF, jG, jH, jI, jJ, ↓reduceIte, reduceCtorEq, jO, jM, jN, jK, jL, h6]
    exact up_nextG q9 hnl (by omega) ⟨(by first | rfl | (simp (disch := omega) only [go_sem, jA, jB, jC, jD, jE, jF, jG, jH, jI, jJ, ↓reduceIte, reduceCtorEq, jP, jO, jM, jN]; try rfl)), by simp only [St.trunc]; omega, ⟨at9, by simp only [St.trunc]; rw [if_pos (by omega)]; exact y0⟩, R1, (dkv R1), (L ++ [(sa, sb')]), Y2, by simp only [St.trunc]; rw [if_pos (by omega)]; exact y1, hZ2, r3, hI2, by simp; omega, (by simp only [At]; try simp (disch := omega) only [go_sem, jA, jB, jC, jD, jE, jF, jG, jH, jI, jJ, ↓reduceIte, reduceCtorEq, jO, jM, jN, jK, jL, h6]), hY9.tr, o0, o1⟩
   ·try simp (disch := omega) only [go_sem, jA, jB, jC, jD, jE, jF, jG, jH, jI, jJ, ↓reduceIte, reduceCtorEq, jO, jM, jN, jK, jL]
    refine awp_upG [2, 15, 16, 17, 80, 81, 82, 83, 84, 85, 86, 87, 88, 89, 90, 91, 92, 93, 94, 95, 96, 97, 98] (by kernel_rfl) 2 (fun j e σ => e 15 = .int .i64 j ∧ 2 ≤ σ.n ∧ (∃ a, σ.ob 0 = some ⟨0, 2, ty_Deck, false, true, [deckV t a]⟩) ∧ σ.ob 1 = some ⟨c0, 3, 31, false, true, [Z]⟩ ∧ SlR 2 41 σ (prs L) Y) ?_ ?_
    ·exact ⟨(by first | rfl | (simp (disch := omega) only [go_sem, jA, jB, jC, jD, jE, jF, jG, jH, jI, jJ, ↓reduceIte, reduceCtorEq, jP, jO, jM, jN]; try rfl)), by simp only; omega, ⟨at4, by try simp (disch := omega) only [go_sem, jA, jB, jC, jD, jE, jF, jG, jH, jI, jJ, ↓reduceIte, reduceCtorEq, jO, jM, jN, jK, jL, z0]; exact w0⟩, by try simp (disch := omega) only [go_sem, jA, jB, jC, jD, jE, jF, jG, jH, jI, jJ, ↓reduceIte, reduceCtorEq, jO, jM, jN, jK, jL, z1, w1], hY3.move (by simp only; omega) fun k hk hh => by
     simp only at hk ⊢
     repeat rw [upd_ne _ _ _ _ (by omega)]⟩
    rintro j fe9 ob9 q9 c9 hj9 hq9 ⟨hjj, hq8, ⟨at9, y0⟩, y1, hY9⟩
    simp (maxSteps := 1000000) only [go_sem, jA, jB, jC, jD, jE, jF, jG, jH, jI, jJ, ↓reduceIte, reduceCtorEq, jP] at hjj hq9 hq8 y0 y1
    try simp (maxSteps := 500001) (disch := omega) only [go_sem, jA, jB, jC, jD, jE, jF, jG, jH, jI, jJ, ↓reduceIte, reduceCtorEq, jO, jM, jN, jK, jL, hjj]
    refine cond_d (fun hlt9 => ?_) (fun hge9 => ?_)
    ·have hjl : j < 2 := by omega
     have b1 := pc_nl (ok_deviation_InForce K hB.s (j : Int) (now : Int)) (.cons hZ.nlr (NlRs.refl _))
     have b2 := fun (h : (infS K (j : Int) (now : Int)).2 = true) => two_law hI h
     have b3 := ok_law26_two K (infS K (j : Int) (now : Int)).1 L (by omega) (by have := hB.lp; omega)
     generalize infS K (j : Int) (now : Int) = R at *
     obtain ⟨R1, R2⟩ := R
     have zq : ¬ 1 = q9 := by omega
     obtain ⟨f1, f2, f3, f4⟩ := hZ.flat
     obtain ⟨f5, f6, f7⟩ := hZ.one
     try simp (maxSteps := 500001) (disch := omega) only [go_sem, jA, jB, jC, jD, jE, jF, jG, jH, jI, jJ, ↓reduceIte, reduceCtorEq, jO, jM, jN, jK, jL, hjj, y1, zq, f1, f2, f3, f4, f5, f6, f7, h6, h5]
     refine call_pc b1 (by simp [hZ.pur, go_sem]) ?_
     try simp (maxSteps := 500001) (disch := omega) only [go_sem, jA, jB, jC, jD, jE, jF, jG, jH, jI, jJ, ↓reduceIte, reduceCtorEq, jO, jM, jN, jK, jL, y1, zq, f1, f2, f3, f4, f5, f6, f7, dvv_flat, dvv_len, dvv_tk, dvv_dt, dvv_ct, dvv_ca]
     cases R2
     ·try simp (disch := omega) only [go_sem, jA, jB, jC, jD, jE, jF, jG, jH, jI, jJ, ↓reduceIte, reduceCtorEq, jO, jM, jN, jK, jL, hjj]
      refine up_nextG q9 hjl (by omega) ⟨(by first | rfl | (simp (disch := omega) only [go_sem, jA, jB, jC, jD, jE, jF, jG, jH, jI, jJ, ↓reduceIte, reduceCtorEq, jP, jO, jM, jN]; try rfl)), by simp only [St.trunc]; omega, ⟨at9, ?_⟩, ?_, ?_⟩
      ·simp only [St.trunc]; rw [if_pos (by omega), upd_ne _ _ _ _ (by omega), upd_ne _ _ _ _ (by omega)]; exact y0
      ·simp only [St.trunc]; rw [if_pos (by omega), upd_ne _ _ _ _ (by omega), upd_ne _ _ _ _ (by omega)]; exact y1
      ·exact hY9.move (by simp only [St.trunc]; omega) fun k hk _ => by simp only at hk; simp only [St.trunc]; rw [if_pos hk, upd_ne _ _ _ _ (by omega), upd_ne _ _ _ _ (by omega)]
     ·have b2 := b2 rfl
      simp only at b2 b3
      rw [b2] at b3
      try simp (maxSteps := 500001) (disch := omega) only [go_sem, jA, jB, jC, jD, jE, jF, jG, jH, jI, jJ, ↓reduceIte, reduceCtorEq, jO, jM, jN, jK, jL, y1, zq, f1, f2, f3, f4, f5, f6, f7, dvv_flat, dvv_len, dvv_tk, dvv_dt, dvv_ct, dvv_ca, h5]
      refine call_lent b3 (.cons hZ.pub (.cons (Pub.e (dvv_pur _)) (.cons (hY9.pub (fun k hk _ => by simp only at hk ⊢; rw [upd_ne _ _ _ _ (by omega), upd_ne _ _ _ _ (by omega)]) (prs_pur _) (prs_ok _)) .nil))) rfl ?_
      try simp (maxSteps := 500001) (disch := omega) only [go_sem, jA, jB, jC, jD, jE, jF, jG, jH, jI, jJ, ↓reduceIte, reduceCtorEq, jO, jM, jN, jK, jL, hjj]
      refine up_nextG q9 hjl (by omega) ⟨(by first | rfl | (simp (disch := omega) only [go_sem, jA, jB, jC, jD, jE, jF, jG, jH, jI, jJ, ↓reduceIte, reduceCtorEq, jP, jO, jM, jN]; try rfl)), by simp only [St.trunc]; omega, ⟨at9, ?_⟩, ?_, ?_⟩
      ·simp only [St.trunc]; rw [if_pos (by omega), upd_ne _ _ _ _ (by omega), upd_ne _ _ _ _ (by omega)]; exact y0
      ·simp only [St.trunc]; rw [if_pos (by omega), upd_ne _ _ _ _ (by omega), upd_ne _ _ _ _ (by omega)]; exact y1
      ·exact hY9.move (by simp only [St.trunc]; omega) fun k hk _ => by simp only at hk; simp only [St.trunc]; rw [if_pos hk, upd_ne _ _ _ _ (by omega), upd_ne _ _ _ _ (by omega)]
    try simp (maxSteps := 500001) (disch := omega) only [go_sem, jA, jB, jC, jD, jE, jF, jG, jH, jI, jJ, ↓reduceIte, reduceCtorEq, jO, jM, jN, jK, jL, h6]
    exact up_nextG q9 hnl (by omega) ⟨(by first | rfl | (simp (disch := omega) only [go_sem, jA, jB, jC, jD, jE, jF, jG, jH, jI, jJ, ↓reduceIte, reduceCtorEq, jP, jO, jM, jN]; try rfl)), by simp only [St.trunc]; omega, ⟨at9, by simp only [St.trunc]; rw [if_pos (by omega)]; exact y0⟩, K, Z, L, Y, by simp only [St.trunc]; rw [if_pos (by omega)]; exact y1, hZ, hB, hI, by omega, (by simp only [At]; try simp (disch := omega) only [go_sem, jA, jB, jC, jD, jE, jF, jG, jH, jI, jJ, ↓reduceIte, reduceCtorEq, jO, jM, jN, jK, jL, h5]), hY9.tr, hY0, hY1⟩
 ·try simp (disch := omega) only [go_sem, jA, jB, jC, jD, jE, jF, jG, jH, jI, jJ, ↓reduceIte, reduceCtorEq, jO, jM, jN, jK, jL]
  exact Pub.pure rfl
theorem law_law26_DeviationTwo {c0 : List AV} (s0 : (Sh.slice 1 (.int .i64)).R c0) : PC prog n_law26_DeviationTwo [(Sh.slice 1 (.int .i64)).mk1 c0] (.bool true) := by
 obtain ⟨l0, rfl, _, _⟩ := shInts s0
 exact ok_law26_DeviationTwo l0
end Go.Proofs.Try
