/- OWN WORK, put together by tools/asm.py, seat.py, mini.py. -/
import Derived.Test.YtpdfbkeholfdaaaLibD
set_option linter.unusedSimpArgs false
set_option linter.unusedVariables false
set_option maxRecDepth 100000
set_option maxHeartbeats 1000000
namespace Go.Proofs.Try
open Go.Ab Go
open Int renaming reduceEq → jA, reduceLT → jB, reduceLE → jC, reduceToNat → jD
open Go.Ab renaming w_ite_ne → jM, w_ite_lt → jN, wrap_id → jO, w_app_nl → jP
open Nat renaming reduceLT → jE, reduceEqDiff → jF, reduceAdd → jG, reduceLeDiff → jH, reduceSub → jI, reduceMul → jJ, sub_zero → jK, sub_self → jL
def pX (p : Dv × AV) : AV := dvX p.1 p.2
def pXs (P : List (Dv × AV)) : List AV := P.map pX
def Sn (p : Dv × AV) : Prop := p.2.flat = true ∧ p.2.cells = [p.2] ∧ p.2.one = true
theorem pXs_length (P : List (Dv × AV)) : (pXs P).length = P.length := by simp [pXs]
def SlP (τ : St) (P : List (Dv × AV)) (r : AV) : Prop := ((r = .nil ∨ r = .list 7 []) ∧ P = []) ∨ ∃ id g L, r = .sl id g 7 0 P.length ∧ id < τ.n ∧ τ.ob id = some ⟨g, 7, tyDv, false, true, L⟩ ∧ P.length ≤ L.length ∧ L.take P.length = pXs P
theorem SlP.of {τ : St} {P : List (Dv × AV)} {E : AV} (h : SlR 7 tyDv τ (pXs P) E) : SlP τ P E := by
 rcases h with ⟨h1, h2⟩ | ⟨id, g, h1, h2, h3⟩
 ·exact .inl ⟨.inl h1, by simpa [pXs] using h2⟩
 ·exact .inr ⟨id, g, pXs P, by rw [h1, pXs_length], h2, h3, by rw [pXs_length]; exact Nat.le_refl _, List.take_of_length_le (by rw [pXs_length]; exact Nat.le_refl _)⟩
def clrD (now : Int) (d : Dv) : Bool := d.wd || decide (d.to < now)
def clrS (K : Dk) (now : Int) : Dk × Int := if chkD K = false then (dk0, 50) else (⟨K.ps, K.nx, K.ds.filter fun d => !clrD now d⟩, 0)
theorem SlP.one {σ : St} {P : List (Dv × AV)} {r : AV} (h : SlP σ P r) : r.flat = true ∧ r.cells = [r] ∧ r.one = true := by
 rcases h with ⟨h1 | h1, rfl⟩ | ⟨id, g, L, rfl, h2, h3, h4, h5⟩
 ·subst h1; exact ⟨rfl, rfl, rfl⟩
 ·subst h1; exact ⟨rfl, rfl, rfl⟩
 ·exact ⟨rfl, rfl, rfl⟩
theorem SlP.move {σ τ : St} {P : List (Dv × AV)} {r : AV} (h : SlP σ P r) (hn : σ.n ≤ τ.n) (ho : ∀ i, i < σ.n → ¬ Oth r i → τ.ob i = σ.ob i) : SlP τ P r := by
 rcases h with h | ⟨id, g, L, rfl, h2, h3, h4, h5⟩
 ·exact .inl h
 ·exact .inr ⟨id, g, L, rfl, by omega, (ho id h2 fun h => h _ _ _ _ rfl).trans h3, h4, h5⟩
def kS0 : Dk := ⟨[⟨1, 1, 5⟩, ⟨2, 2, 6⟩], 1, []⟩
def xS0 : Dv := ⟨1, 0, 3, 9, 40, [], false⟩
def kS1 : Dk := ⟨[⟨1, 1, 5⟩, ⟨2, 2, 6⟩], 2, [xS0]⟩
def kS2 : Dk := ⟨[⟨1, 1, 5⟩, ⟨2, 2, 6⟩], 2, [⟨1, 0, 3, 9, 40, [1], false⟩]⟩
def kS3 : Dk := ⟨[⟨1, 1, 5⟩, ⟨2, 2, 6⟩], 2, [⟨1, 0, 3, 9, 40, [1, 2], false⟩]⟩
theorem sS1 : reqS kS0 0 3 9 40 = (kS1, 1, 0) := by decide +kernel
theorem sS2 : infS kS1 0 5 = (dv0, false) := by decide +kernel
theorem sS3 : sgnS kS1 1 1 (codeS 5 1 xS0) 3 = (kS2, 0) := by decide +kernel
theorem sS4 : sgnS kS2 1 2 (codeS 6 1 xS0) 3 = (kS3, 0) := by decide +kernel
theorem sS5 : infS kS3 0 5 = (⟨1, 0, 3, 9, 40, [1, 2], false⟩, true) := by decide +kernel
theorem sS6 : codeS 1 1 dv0 = 230903379 := by decide +kernel
theorem dv0_nl : NlR (.agg [.int .i64 0, .int .i64 0, .int .i64 0, .int .i64 0, .int .i64 0, .nil, .bool false]) (dvv dv0) :=
 .agg (.cons .rfl (.cons .rfl (.cons .rfl (.cons .rfl (.cons .rfl (.cons (.nil 1) (.cons .rfl .nil)))))))
theorem ok_law26_sane : PC prog n_law26_sane [] (.bool true) := by
 have h1 := ok_deviation_Request kS0 ⟨by decide, by decide⟩ 0 3 9 40
 have h2 := ok_deviation_InForce kS1 ⟨by decide, by decide⟩ 0 5
 have h3 := ok_deviation_Code 5 1 xS0
 have h4 := ok_deviation_Sign kS1 ⟨by decide, by decide⟩ 1 1 (codeS 5 1 xS0) 3
 have h5 := ok_deviation_Code 6 1 xS0
 have h6 := ok_deviation_Sign kS2 ⟨by decide, by decide⟩ 1 2 (codeS 6 1 xS0) 3
 have h7 := ok_deviation_InForce kS3 ⟨by decide, by decide⟩ 0 5
 have h8 := pc_nl (ok_deviation_Code 1 1 dv0) (.cons .rfl (.cons .rfl (.cons dv0_nl .nil)))
 rw [sS1] at h1
 rw [sS2] at h2
 rw [sS3] at h4
 rw [sS4] at h6
 rw [sS5] at h7
 rw [sS6] at h8
 have h1 := pc_nl (args := [.agg [.list 3 [.agg [.int .i64 1, .int .i64 1, .int .i64 5], .agg [.int .i64 2, .int .i64 2, .int .i64 6]], .int .i64 1, .nil], .int .i64 0, .int .i64 3, .int .i64 9, .int .i64 40]) h1 (.cons (.agg (.cons .rfl (.cons .rfl (.cons (.nil 7) .nil)))) (NlRs.refl _))
 generalize codeS 5 1 xS0 = k1 at *
 generalize codeS 6 1 xS0 = k2 at *
 simp only [dkv, kS1, kS2, kS3, xS0, pns, dvs, dvv, dvX, pnv, ints, List.map_cons, List.map_nil, dv0] at h1 h2 h3 h4 h5 h6 h7
 refine PC_of_body b_law26_sane (by simp) ?_
 simp only [c_law26_sane, go_sem, jA, jB, jC, jD, jE, jF, jG, jH, jI, jJ, ↓reduceIte, reduceCtorEq, jP]
 try simp (disch := omega) only [go_sem, jA, jB, jC, jD, jE, jF, jG, jH, jI, jJ, ↓reduceIte, reduceCtorEq, jO, jM, jN, jK, jL]
 refine call_pc h1 (by simp [go_sem]) ?_
 try simp (disch := omega) only [go_sem, jA, jB, jC, jD, jE, jF, jG, jH, jI, jJ, ↓reduceIte, reduceCtorEq, jO, jM, jN, jK, jL]
 refine call_pc h2 (by simp [go_sem]) ?_
 try simp (disch := omega) only [go_sem, jA, jB, jC, jD, jE, jF, jG, jH, jI, jJ, ↓reduceIte, reduceCtorEq, jO, jM, jN, jK, jL]
 refine call_pc h3 (by simp [go_sem]) ?_
 try simp (disch := omega) only [go_sem, jA, jB, jC, jD, jE, jF, jG, jH, jI, jJ, ↓reduceIte, reduceCtorEq, jO, jM, jN, jK, jL]
 refine call_pc h4 (by simp [go_sem]) ?_
 try simp (disch := omega) only [go_sem, jA, jB, jC, jD, jE, jF, jG, jH, jI, jJ, ↓reduceIte, reduceCtorEq, jO, jM, jN, jK, jL]
 refine call_pc h5 (by simp [go_sem]) ?_
 try simp (disch := omega) only [go_sem, jA, jB, jC, jD, jE, jF, jG, jH, jI, jJ, ↓reduceIte, reduceCtorEq, jO, jM, jN, jK, jL]
 refine call_pc h6 (by simp [go_sem]) ?_
 try simp (disch := omega) only [go_sem, jA, jB, jC, jD, jE, jF, jG, jH, jI, jJ, ↓reduceIte, reduceCtorEq, jO, jM, jN, jK, jL]
 refine call_pc h7 (by simp [go_sem]) ?_
 try simp (disch := omega) only [go_sem, jA, jB, jC, jD, jE, jF, jG, jH, jI, jJ, ↓reduceIte, reduceCtorEq, jO, jM, jN, jK, jL]
 refine call_pc h8 (by simp [go_sem]) ?_
 try simp (disch := omega) only [go_sem, jA, jB, jC, jD, jE, jF, jG, jH, jI, jJ, ↓reduceIte, reduceCtorEq, jO, jM, jN, jK, jL]
 exact Pub.pure rfl
abbrev shI26 : Sh := .int .i64
abbrev shPn : Sh := .struct (.fc shI26 (.fc shI26 (.fc shI26 .f0)))
abbrev shDv : Sh := .struct (.fc shI26 (.fc shI26 (.fc shI26 (.fc shI26 (.fc shI26 (.fc (.slice 1 shI26) (.fc .bool .f0)))))))
abbrev shDk : Sh := .struct (.fc (.slice 3 shPn) (.fc shI26 (.fc (.slice 7 shDv) .f0)))
theorem shPnR {c : List AV} (h : shPn.R c) : ∃ b : Pn, shPn.mk1 c = pnv b := by
 obtain ⟨x1, y1, rfl, ⟨a, rfl, _⟩, x2, y2, rfl, ⟨b, rfl, _⟩, x3, y3, rfl, ⟨d, rfl, _⟩, rfl⟩ := h
 exact ⟨⟨a, b, d⟩, rfl⟩
theorem shDvR {c : List AV} (h : shDv.R c) : ∃ b : Dv, b.sg.length ≤ 9223372036854775807 ∧ shDv.mk1 c = dvv b := by
 obtain ⟨x1, y1, rfl, ⟨a1, rfl, _⟩, x2, y2, rfl, ⟨a2, rfl, _⟩, x3, y3, rfl, ⟨a3, rfl, _⟩, x4, y4, rfl, ⟨a4, rfl, _⟩, x5, y5, rfl, ⟨a5, rfl, _⟩, x6, y6, rfl, h6, x7, y7, rfl, ⟨a7, rfl⟩, rfl⟩ := h
 obtain ⟨l, rfl, hl, _⟩ := shInts h6
 exact ⟨⟨a1, a2, a3, a4, a5, l, a7⟩, hl, rfl⟩
theorem shPnsR {c : List AV} (h : (Sh.slice 3 shPn).R c) : ∃ L : List Pn, c = [.list 3 (pns L)] ∧ L.length ≤ 9223372036854775807 := by
 obtain ⟨xs, rfl, hl, h⟩ := h
 obtain ⟨L, rfl, hL⟩ := exists_map (f := pnv) (Q := fun _ => True) fun x hx => by
  obtain ⟨cs, hr, _, rfl⟩ := h x hx
  obtain ⟨b, hb⟩ := shPnR hr
  exact ⟨b, trivial, hb⟩
 exact ⟨L, rfl, by simpa using hl⟩
theorem shDvsR {c : List AV} (h : (Sh.slice 7 shDv).R c) : ∃ L : List Dv, c = [.list 7 (dvs L)] ∧ L.length ≤ 9223372036854775807 ∧ ∀ d ∈ L, d.sg.length ≤ 9223372036854775807 := by
 obtain ⟨xs, rfl, hl, h⟩ := h
 obtain ⟨L, rfl, hL⟩ := exists_map (f := dvv) (Q := fun d => d.sg.length ≤ 9223372036854775807) fun x hx => by
  obtain ⟨cs, hr, _, rfl⟩ := h x hx
  obtain ⟨b, hb1, hb⟩ := shDvR hr
  exact ⟨b, hb1, hb⟩
 exact ⟨L, rfl, by simpa using hl, hL⟩
theorem shDkR {c : List AV} (h : shDk.R c) : ∃ K : Dk, shDk.mk1 c = dkv K ∧ K.ps.length ≤ 9223372036854775807 ∧ K.ds.length ≤ 9223372036854775807 ∧ ∀ d ∈ K.ds, d.sg.length ≤ 9223372036854775807 := by
 obtain ⟨x1, y1, rfl, h1, x2, y2, rfl, ⟨n, rfl, _⟩, x3, y3, rfl, h3, rfl⟩ := h
 obtain ⟨L1, rfl, l1⟩ := shPnsR h1
 obtain ⟨L3, rfl, l3, m3⟩ := shDvsR h3
 exact ⟨⟨L1, n, L3⟩, rfl, l1, l3, m3⟩
def sumW : Int → List Dv → Int
 | c, [] => c
 | c, d :: l => sumW (IntKind.i64.wrap (c + d.sg.length)) l
def smlS (K : Dk) : Bool := decide (IntKind.i64.wrap (IntKind.i64.wrap ((K.ps.length : Int) + K.ds.length) + sumW 0 K.ds) < 300)
theorem ok_law26_small (K : Dk) (hL : DkL K) : PC prog n_law26_small [dkv K] (.bool (smlS K)) := by
 have hlp := hL.s.lp
 have hld := hL.s.ld
 refine PC_of_body b_law26_small (by simp) ?_
 simp only [c_law26_small, dkv]
 try simp (disch := omega) only [go_sem, jA, jB, jC, jD, jE, jF, jG, jH, jI, jJ, ↓reduceIte, reduceCtorEq, jO, jM, jN, jK, jL, dvs_length]
 refine awp_upG [3, 5, 9, 10, 11, 12, 13, 14, 15, 16, 17, 18] (by kernel_rfl) K.ds.length (fun i e σ => e 9 = .int .i64 i ∧ (∃ c, e 3 = .int .i64 c ∧ sumW 0 K.ds = sumW c (K.ds.drop i)) ∧ σ.ob 0 = some ⟨0, 3, 31, false, true, [.agg [.list 3 (pns K.ps), .int .i64 K.nx, .list 7 (dvs K.ds)]]⟩) ?_ ?_
 ·exact ⟨(by first | rfl | (simp (disch := omega) only [go_sem, jA, jB, jC, jD, jE, jF, jG, jH, jI, jJ, ↓reduceIte, reduceCtorEq, jP, jO, jM, jN]; try rfl)), ⟨0, (by first | rfl | (simp (disch := omega) only [go_sem, jA, jB, jC, jD, jE, jF, jG, jH, jI, jJ, ↓reduceIte, reduceCtorEq, jP, jO, jM, jN]; try rfl)), rfl⟩, by try simp (disch := omega) only [go_sem, jA, jB, jC, jD, jE, jF, jG, jH, jI, jJ, ↓reduceIte, reduceCtorEq, jO, jM, jN, jK, jL]⟩
 rintro i fe ob m c hi hm ⟨h9, ⟨x, h3, hx⟩, v0⟩
 simp (maxSteps := 1000000) only [go_sem, jA, jB, jC, jD, jE, jF, jG, jH, jI, jJ, ↓reduceIte, reduceCtorEq, jP] at h9 h3 v0 hm
 try simp (disch := omega) only [go_sem, jA, jB, jC, jD, jE, jF, jG, jH, jI, jJ, ↓reduceIte, reduceCtorEq, jO, jM, jN, jK, jL, h9]
 refine cond_d (fun hlt => ?_) (fun hge => ?_)
 ·have hil : i < K.ds.length := by omega
  have hg : K.ds[i]? = some K.ds[i] := List.getElem?_eq_getElem hil
  rw [List.drop_eq_getElem_cons hil, sumW] at hx
  generalize K.ds[i] = d at *
  try simp (disch := omega) only [go_sem, jA, jB, jC, jD, jE, jF, jG, jH, jI, jJ, ↓reduceIte, reduceCtorEq, jO, jM, jN, jK, jL, h9, h3, dvs_length, dvs_get, hg, Option.map_some, dvv, dvX, ints_length]
  refine ⟨by omega, by omega, ?_⟩
  refine up_nextG m hil (by omega) ⟨(by first | rfl | (simp (disch := omega) only [go_sem, jA, jB, jC, jD, jE, jF, jG, jH, jI, jJ, ↓reduceIte, reduceCtorEq, jP, jO, jM, jN]; try rfl)), ⟨_, by try simp (disch := omega) only [go_sem, jA, jB, jC, jD, jE, jF, jG, jH, jI, jJ, ↓reduceIte, reduceCtorEq, jO, jM, jN, jK, jL, h3], hx⟩, ?_⟩
  simp only [St.trunc]; rw [if_pos (by omega), upd_ne _ _ _ _ (by omega), upd_ne _ _ _ _ (by omega)]; exact v0
 obtain rfl : i = K.ds.length := by omega
 rw [List.drop_length, sumW] at hx
 try simp (disch := omega) only [go_sem, jA, jB, jC, jD, jE, jF, jG, jH, jI, jJ, ↓reduceIte, reduceCtorEq, jO, jM, jN, jK, jL, v0, h3, pns_length, dvs_length]
 rw [smlS, hx]
 exact Pub.pure rfl
theorem DkB.l {K : Dk} (h : DkB K) : DkL K := ⟨h.s, fun d hd => by have := (h.kd d hd).2.2; omega⟩
theorem dk0_l : DkL dk0 := dk0_b.l
theorem DkL.clr {K : Dk} (h : DkL K) (now : Int) : DkL (clrS K now).1 := by
 unfold clrS
 split
 ·exact dk0_l
 ·refine ⟨⟨h.s.lp, ?_⟩, fun d hd => h.sg d (List.mem_filter.1 hd).1⟩
  have := List.length_filter_le (fun d => !clrD now d) K.ds
  have := h.s.ld
  simp only; omega
theorem DkL.req {K : Dk} (h : DkL K) (site fr to rel : Int) : DkL (reqS K site fr to rel).1 := by
 unfold reqS
 cases hc : chkD K
 ·simp only [if_true]; exact dk0_l
 have h1 := chkD_nx hc
 simp only [Bool.true_eq_false, if_false]
 split
 ·exact dk0_l
 split
 ·exact dk0_l
 split
 ·exact dk0_l
 split
 ·exact dk0_l
 ·refine ⟨⟨h.s.lp, by simp; omega⟩, fun d hd => ?_⟩
  rcases List.mem_append.1 hd with hd | hd
  ·exact h.sg d hd
  ·obtain rfl : d = _ := by simpa using hd
   simp
theorem set_l {K : Dk} (h : DkL K) {i : Nat} {d : Dv} (hd : d.sg.length ≤ 9223372036854775807) : DkL ⟨K.ps, K.nx, K.ds.set i d⟩ :=
 ⟨⟨h.s.lp, by simpa using h.s.ld⟩, fun e he => by
  rcases List.mem_or_eq_of_mem_set he with he | rfl
  ·exact h.sg e he
  ·exact hd⟩
theorem gD_sg {K : Dk} (hc : chkD K = true) (i : Nat) : (gD K.ds i).sg.length ≤ 2 := by
 by_cases hi : i < K.ds.length
 ·exact chkD_sg hc (List.mem_of_getElem? (gD_get hi))
 ·have : gD K.ds i = default := by rw [gD, List.getD_eq_getElem?_getD, List.getElem?_eq_none (by omega)]; rfl
  rw [this]; simp [default, instInhabitedDv.default]
theorem DkL.sgn {K : Dk} (h : DkL K) (id who code now : Int) : DkL (sgnS K id who code now).1 := by
 simp only [sgnS]
 split
 ·exact dk0_l
 split
 ·exact dk0_l
 split
 ·exact dk0_l
 ·rename_i h1 _ _
  have hg := gD_sg (askS_chk (by simpa using h1)) (askS K id who code now 1).1.toNat
  exact set_l h (by simp; omega)
theorem DkL.wdr {K : Dk} (h : DkL K) (id who code now : Int) : DkL (wdrS K id who code now).1 := by
 simp only [wdrS]
 split
 ·exact dk0_l
 ·rename_i h1
  have hg := gD_sg (askS_chk (by simpa using h1)) (askS K id who code now 2).1.toNat
  exact set_l h (by simp; omega)
theorem two_dk {a b : Dk} {i : Nat} (hi : i < 2) (ha : DkL a) (hb : DkL b) : ∃ M, [dkv a, dkv b][i]? = some (dkv M) ∧ DkL M := by
 rcases (show i = 0 ∨ i = 1 by omega) with rfl | rfl
 ·exact ⟨a, rfl, ha⟩
 ·exact ⟨b, rfl, hb⟩
theorem dkv_p1 (K : Dk) : (dkv K).cells.all AV.pur1 = true := by simp [dkv, AV.cells, go_sem, AV.pur1, pns_pur, dvs_pur]
theorem dkv_put2 (A B : Dk) : setc 0 (dkv A) (dkv B) = dkv A := rfl
def Fours (L : List AV) : Prop := ∀ i, i < L.length → ∃ a b c d : Int, L[i]? = some (.agg [.int .i64 a, .int .i64 b, .int .i64 c, .int .i64 d])
theorem Fours.nil : Fours [] := fun i h => by simp at h
theorem Fours.cons {a b c d : Int} {L : List AV} (h : Fours L) : Fours (.agg [.int .i64 a, .int .i64 b, .int .i64 c, .int .i64 d] :: L) := fun i hi => by
 cases i with
 | zero => exact ⟨a, b, c, d, rfl⟩
 | succ i => simpa using h i (by simpa using hi)
theorem env0_10 (a b c d f g h i k l : AV) : env0 [a, b, c, d, f, g, h, i, k, l] = upd (upd (upd (upd (upd (upd (upd (upd (upd (upd junkE 9 l) 8 k) 7 i) 6 h) 5 g) 4 f) 3 d) 2 c) 1 b) 0 a := by
 funext j
 match j with
 | 0 => rfl
 | 1 => rfl
 | 2 => rfl
 | 3 => rfl
 | 4 => rfl
 | 5 => rfl
 | 6 => rfl
 | 7 => rfl
 | 8 => rfl
 | 9 => rfl
 | j + 10 => simp [env0, junkE, upd]
set_option maxHeartbeats 8000000 in
theorem ok_law26_DeviationDoes (t : List Int) (raw : Dk) (site fr to rel id person code now : Int) (hL : DkL raw) : PC prog n_law26_DeviationDoes [.list 1 (ints t), dkv raw, .int .i64 site, .int .i64 fr, .int .i64 to, .int .i64 rel, .int .i64 id, .int .i64 person, .int .i64 code, .int .i64 now] (.bool true) := by
 refine PC_of_body b_law26_DeviationDoes (by simp) ?_
 simp only [c_law26_DeviationDoes, env0_10]
 try simp (disch := omega) only [go_sem, jA, jB, jC, jD, jE, jF, jG, jH, jI, jJ, ↓reduceIte, reduceCtorEq, jO, jM, jN, jK, jL, dkv_flat, dkv_len, dkv_tk, dkv_dt]
 refine call_pc ok_law26_sane (by simp) ?_
 try simp (disch := omega) only [go_sem, jA, jB, jC, jD, jE, jF, jG, jH, jI, jJ, ↓reduceIte, reduceCtorEq, jO, jM, jN, jK, jL]
 refine call_pc (ok_mk_Few t) (by simp [go_sem]) ?_
 cases hfew : fewB t
 ·try simp (disch := omega) only [go_sem, jA, jB, jC, jD, jE, jF, jG, jH, jI, jJ, ↓reduceIte, reduceCtorEq, jO, jM, jN, jK, jL]
  exact Pub.of_eq rfl rfl
 have hlt : t.length ≤ 9223372036854775807 := by simp [fewB] at hfew; omega
 try simp (disch := omega) only [go_sem, jA, jB, jC, jD, jE, jF, jG, jH, jI, jJ, ↓reduceIte, reduceCtorEq, jO, jM, jN, jK, jL, dkv_flat, dkv_len, dkv_tk, dkv_dt]
 refine call_pc (ok_law26_small raw hL) (by simp [dkv_pur]) ?_
 cases hsm : smlS raw
 ·try simp (disch := omega) only [go_sem, jA, jB, jC, jD, jE, jF, jG, jH, jI, jJ, ↓reduceIte, reduceCtorEq, jO, jM, jN, jK, jL]
  exact Pub.of_eq rfl rfl
 try simp (disch := omega) only [go_sem, jA, jB, jC, jD, jE, jF, jG, jH, jI, jJ, ↓reduceIte, reduceCtorEq, jO, jM, jN, jK, jL]
 refine call_hc (ok_mk_New _ t) ?_
 try simp (disch := omega) only [go_sem, jA, jB, jC, jD, jE, jF, jG, jH, jI, jJ, ↓reduceIte, reduceCtorEq, jO, jM, jN, jK, jL]
 refine (hc_flow_Desk _ 1 1 t 0 hlt (by simp only [St.push]; omega) (by try simp (disch := omega) only [go_sem, jA, jB, jC, jD, jE, jF, jG, jH, jI, jJ, ↓reduceIte, reduceCtorEq, jO, jM, jN, jK, jL])).mono ?_
 intro r τ hD
 obtain ⟨⟨K, rfl, hK⟩, hn, ⟨at1, hd1⟩, hf⟩ := hD.use (by simp only [St.push]; omega)
 obtain ⟨ob, m, c⟩ := τ
 simp only [St.push] at hn hd1 hf
 subst hn
 clear hD
 have v0 := hf 0 (by omega) (by omega)
 try simp (disch := omega) only [go_sem, jA, jB, jC, jD, jE, jF, jG, jH, jI, jJ, ↓reduceIte, reduceCtorEq, jO, jM, jN, jK, jL] at v0
 clear hf
 try simp (disch := omega) only [go_sem, jA, jB, jC, jD, jE, jF, jG, jH, jI, jJ, ↓reduceIte, reduceCtorEq, jO, jM, jN, jK, jL, dkv_flat, dkv_len, dkv_tk, dkv_dt, dkv_ct, dkv_ca]
 refine (hc_flow_Signed _ 1 1 t at1 K hK 0 hlt (by simp only; omega) (by try simp (disch := omega) only [go_sem, jA, jB, jC, jD, jE, jF, jG, jH, jI, jJ, ↓reduceIte, reduceCtorEq, jO, jM, jN, jK, jL]; exact hd1)).mono ?_
 intro r τ hD
 obtain ⟨⟨sa, sb', sc, rfl, hsa⟩, hn, ⟨at2, hd2⟩, hf⟩ := hD.use (by simp only; omega)
 obtain ⟨ob2, m2, c2⟩ := τ
 simp only at hn hd2 hf
 subst hn
 clear hD
 have w0 := hf 0 (by omega) (by omega)
 have w2 := hf 2 (by omega) (by omega)
 try simp (disch := omega) only [go_sem, jA, jB, jC, jD, jE, jF, jG, jH, jI, jJ, ↓reduceIte, reduceCtorEq, jO, jM, jN, jK, jL, v0] at w0
 try simp (disch := omega) only [go_sem, jA, jB, jC, jD, jE, jF, jG, jH, jI, jJ, ↓reduceIte, reduceCtorEq, jO, jM, jN, jK, jL] at w2
 have hKL := hK.l
 try simp (disch := omega) only [go_sem, jA, jB, jC, jD, jE, jF, jG, jH, jI, jJ, ↓reduceIte, reduceCtorEq, jO, jM, jN, jK, jL, w0, w2, dkv_flat, dkv_len, dkv_tk, dkv_dt, dkv_ct, dkv_ca, dkv_one, dkv_p1]
 have hPair := fun i (hi : i < 2) => two_dk (i := i) hi hL hKL
 have hPl : [dkv raw, dkv K].length = 2 := rfl
 generalize [dkv raw, dkv K] = PL at *
 refine awp_upG [20, 27, 29, 30, 31, 32, 33, 34, 35, 37, 38, 39, 40, 41, 67, 68, 69, 70, 71, 72, 73, 74, 75, 76, 77, 78, 79, 80, 81, 82, 83, 84, 85, 86, 87, 88, 89, 90, 91, 92, 93, 94, 95, 96, 97, 98, 99, 100, 101, 102, 103, 104, 105, 106, 107, 108, 109, 110, 111, 112, 113, 114, 115, 116, 117, 118, 119, 120, 121, 122, 123, 124, 125, 126, 127, 128, 129, 130, 131, 132, 133, 134, 135, 136, 137, 138, 139, 140, 141, 142, 143, 144, 145, 146, 147, 148, 149, 150, 151, 152, 153, 154, 155, 156, 157, 158, 159, 160, 161, 162, 163, 164, 165, 166, 167, 168, 169, 170, 171, 172, 173, 174, 175, 176, 177, 178, 179, 180, 181, 182, 183, 184, 185, 186, 187, 188, 189, 190, 191, 192, 193, 194, 195, 196, 197, 198, 199, 200, 201, 202, 203, 204, 205, 206, 207, 208, 209, 210, 211, 212, 213, 214, 215, 216, 217, 218, 219, 220, 221, 222, 223, 224, 225, 226, 227, 228, 229, 230, 231, 232, 233, 234, 235, 236, 237, 238] (by kernel_rfl) 2 (fun i e σ => e 67 = .int .i64 i ∧ 3 ≤ σ.n) ?_ ?_
 ·exact ⟨(by first | rfl | (simp (disch := omega) only [go_sem, jA, jB, jC, jD, jE, jF, jG, jH, jI, jJ, ↓reduceIte, reduceCtorEq, jP, jO, jM, jN]; try rfl)), Nat.le_refl _⟩
 clear w0 w2 hd1 hd2 hf v0
 rintro i fe ob1 q1 c1 hi hq1 ⟨hii, hq2⟩
 simp (maxSteps := 1000000) only [go_sem, jA, jB, jC, jD, jE, jF, jG, jH, jI, jJ, ↓reduceIte, reduceCtorEq, jP] at hii hq1 hq2
 try simp (disch := omega) only [go_sem, jA, jB, jC, jD, jE, jF, jG, jH, jI, jJ, ↓reduceIte, reduceCtorEq, jO, jM, jN, jK, jL, hii]
 refine cond_d (fun hlt1 => ?_) (fun hge1 => ?_)
 ·have hil : i < 2 := by omega
  obtain ⟨M, hM, hML⟩ := hPair i hil
  have r1 := fun a b c d => ok_deviation_Request M hML.s a b c d
  have r2 := fun a b c d => okS_ref26_Request M hML.s a b c d
  have r3 := fun a b c d => ok_ref26_Same (reqS M a b c d).1 (reqS M a b c d).1 (hML.req a b c d)
  have s1 := fun a b c d => ok_deviation_Sign M hML.s a b c d
  have s2 := fun a b c d => okS_ref26_Sign M hML.s a b c d
  have s3 := fun a b c d => ok_ref26_Same (sgnS M a b c d).1 (sgnS M a b c d).1 (hML.sgn a b c d)
  have t1 := fun a b c d => ok_deviation_Withdraw M hML.s a b c d
  have t2 := fun a b c d => okS_ref26_Withdraw M hML.s a b c d
  have t3 := fun a b c d => ok_ref26_Same (wdrS M a b c d).1 (wdrS M a b c d).1 (hML.wdr a b c d)
  try simp (maxSteps := 500001) (disch := omega) only [go_sem, jA, jB, jC, jD, jE, jF, jG, jH, jI, jJ, ↓reduceIte, reduceCtorEq, jO, jM, jN, jK, jL, hii, hM, hPl, dkv_flat, dkv_len, dkv_tk, dkv_dt, dkv_ct, dkv_ca]
  refine ⟨by omega, by omega, dkv_one M, ?_⟩
  refine call_pc (ok_mk_Mod site 3 (by omega) (by omega)) (by simp [go_sem]) ?_
  try simp (disch := omega) only [go_sem, jA, jB, jC, jD, jE, jF, jG, jH, jI, jJ, ↓reduceIte, reduceCtorEq, jO, jM, jN, jK, jL]
  refine call_pc (ok_mk_Mod fr 20 (by omega) (by omega)) (by simp [go_sem]) ?_
  try simp (disch := omega) only [go_sem, jA, jB, jC, jD, jE, jF, jG, jH, jI, jJ, ↓reduceIte, reduceCtorEq, jO, jM, jN, jK, jL]
  refine call_pc (ok_mk_Mod fr 20 (by omega) (by omega)) (by simp [go_sem]) ?_
  try simp (disch := omega) only [go_sem, jA, jB, jC, jD, jE, jF, jG, jH, jI, jJ, ↓reduceIte, reduceCtorEq, jO, jM, jN, jK, jL]
  refine call_pc (ok_mk_Mod to 9 (by omega) (by omega)) (by simp [go_sem]) ?_
  try simp (disch := omega) only [go_sem, jA, jB, jC, jD, jE, jF, jG, jH, jI, jJ, ↓reduceIte, reduceCtorEq, jO, jM, jN, jK, jL]
  refine call_pc (ok_mk_Mod rel 50 (by omega) (by omega)) (by simp [go_sem]) ?_
  try simp (disch := omega) only [go_sem, jA, jB, jC, jD, jE, jF, jG, jH, jI, jJ, ↓reduceIte, reduceCtorEq, jO, jM, jN, jK, jL]
  have hQ : Fours [.agg [.int .i64 site, .int .i64 fr, .int .i64 to, .int .i64 rel], .agg [.int .i64 (site % 3), .int .i64 (fr % 20), .int .i64 (fr % 20 + to % 9), .int .i64 (rel % 50)]] := Fours.nil.cons.cons
  have hQl : [AV.agg [.int .i64 site, .int .i64 fr, .int .i64 to, .int .i64 rel], .agg [.int .i64 (site % 3), .int .i64 (fr % 20), .int .i64 (fr % 20 + to % 9), .int .i64 (rel % 50)]].length = 2 := rfl
  generalize [AV.agg [.int .i64 site, .int .i64 fr, .int .i64 to, .int .i64 rel], .agg [.int .i64 (site % 3), .int .i64 (fr % 20), .int .i64 (fr % 20 + to % 9), .int .i64 (rel % 50)]] = QL at *
  refine awp_upG [20, 29, 30, 31, 32, 33, 34, 35, 90, 91, 92, 93, 94, 95, 96, 97, 98, 99, 100, 101, 102, 103, 104, 105, 106, 107, 108, 109, 110, 111, 112, 113, 114, 115, 116, 117, 118, 119, 120, 121, 122, 123, 124, 125, 126, 127, 128, 129, 130, 131, 132, 133, 134, 135, 136] (by kernel_rfl) 2 (fun j e σ => e 90 = .int .i64 j ∧ q1 + 1 ≤ σ.n ∧ σ.ob q1 = some ⟨c1, 3, 31, false, true, [dkv M]⟩) ?_ ?_
  ·exact ⟨(by first | rfl | (simp (disch := omega) only [go_sem, jA, jB, jC, jD, jE, jF, jG, jH, jI, jJ, ↓reduceIte, reduceCtorEq, jP, jO, jM, jN]; try rfl)), Nat.le_refl _, by try simp (disch := omega) only [go_sem, jA, jB, jC, jD, jE, jF, jG, jH, jI, jJ, ↓reduceIte, reduceCtorEq, jO, jM, jN, jK, jL]⟩
  rintro j fe2 ob3 q3 c3 hj hq3 ⟨hjj, hq4, xq⟩
  simp (maxSteps := 1000000) only [go_sem, jA, jB, jC, jD, jE, jF, jG, jH, jI, jJ, ↓reduceIte, reduceCtorEq, jP] at hjj hq3 hq4 xq
  try simp (maxSteps := 500001) (disch := omega) only [go_sem, jA, jB, jC, jD, jE, jF, jG, jH, jI, jJ, ↓reduceIte, reduceCtorEq, jO, jM, jN, jK, jL, hjj]
  refine cond_d (fun hlt2 => ?_) (fun hge2 => ?_)
  ·have hjl : j < 2 := by omega
   obtain ⟨a, b, d, e, hs⟩ := hQ j (by omega)
   have b1 := r1 a b d e
   have b2 := r2 a b d e
   have b3 := r3 a b d e
   rw [decide_eq_true rfl] at b3
   generalize reqS M a b d e = R at *
   obtain ⟨R1, R2, R3⟩ := R
   have z1 : ¬ q1 = q3 := by omega
   have z2 : ¬ q3 = q3 + 1 := by omega
   have z3 : ¬ q1 = q3 + 1 := by omega
   have z4 : ¬ q3 + 1 = q3 + 1 + 1 := by omega
   try simp (maxSteps := 500001) (disch := omega) only [go_sem, jA, jB, jC, jD, jE, jF, jG, jH, jI, jJ, ↓reduceIte, reduceCtorEq, jO, jM, jN, jK, jL, hjj, hs, hQl, xq, z1, z2, z3, dkv_flat, dkv_len, dkv_tk, dkv_dt, dkv_ct, dkv_ca]
   refine ⟨by omega, by omega, ?_⟩
   refine call_pc b1 (by simp [dkv_pur, go_sem]) ?_
   try simp (maxSteps := 500001) (disch := omega) only [go_sem, jA, jB, jC, jD, jE, jF, jG, jH, jI, jJ, ↓reduceIte, reduceCtorEq, jO, jM, jN, jK, jL, xq, z1, z2, z3, dkv_flat, dkv_len, dkv_tk, dkv_dt, dkv_ct, dkv_ca]
   refine call_pc b2 (by simp [dkv_pur, go_sem]) ?_
   try simp (maxSteps := 500001) (disch := omega) only [go_sem, jA, jB, jC, jD, jE, jF, jG, jH, jI, jJ, ↓reduceIte, reduceCtorEq, jO, jM, jN, jK, jL, xq, z1, z2, z3, z4, dkv_flat, dkv_len, dkv_tk, dkv_dt, dkv_ct, dkv_ca]
   refine call_pc b3 (by simp [dkv_pur]) ?_
   try simp (maxSteps := 500001) (disch := omega) only [go_sem, jA, jB, jC, jD, jE, jF, jG, jH, jI, jJ, ↓reduceIte, reduceCtorEq, jO, jM, jN, jK, jL, hjj]
   refine up_nextG q3 hjl (by omega) ⟨(by first | rfl | (simp (disch := omega) only [go_sem, jA, jB, jC, jD, jE, jF, jG, jH, jI, jJ, ↓reduceIte, reduceCtorEq, jP, jO, jM, jN]; try rfl)), by simp only [St.trunc]; omega, ?_⟩
   simp only [St.trunc]; rw [if_pos (by omega)]; repeat rw [upd_ne _ _ _ _ (by omega)]
   exact xq
  clear hge2 hjj hj r1 r2 r3 hQ hQl
  try simp (disch := omega) only [go_sem, jA, jB, jC, jD, jE, jF, jG, jH, jI, jJ, ↓reduceIte, reduceCtorEq, jO, jM, jN, jK, jL]
  refine call_pc (ok_mk_Mod now 24 (by omega) (by omega)) (by simp [go_sem]) ?_
  try simp (disch := omega) only [go_sem, jA, jB, jC, jD, jE, jF, jG, jH, jI, jJ, ↓reduceIte, reduceCtorEq, jO, jM, jN, jK, jL]
  have hQ : Fours [.agg [.int .i64 id, .int .i64 person, .int .i64 code, .int .i64 now], .agg [.int .i64 sa, .int .i64 sb', .int .i64 sc, .int .i64 0], .agg [.int .i64 sa, .int .i64 sb', .int .i64 sc, .int .i64 now], .agg [.int .i64 sa, .int .i64 sb', .int .i64 sc, .int .i64 (now % 24)], .agg [.int .i64 sa, .int .i64 person, .int .i64 code, .int .i64 0]] := Fours.nil.cons.cons.cons.cons.cons
  have hQl : [AV.agg [.int .i64 id, .int .i64 person, .int .i64 code, .int .i64 now], .agg [.int .i64 sa, .int .i64 sb', .int .i64 sc, .int .i64 0], .agg [.int .i64 sa, .int .i64 sb', .int .i64 sc, .int .i64 now], .agg [.int .i64 sa, .int .i64 sb', .int .i64 sc, .int .i64 (now % 24)], .agg [.int .i64 sa, .int .i64 person, .int .i64 code, .int .i64 0]].length = 5 := rfl
  generalize [AV.agg [.int .i64 id, .int .i64 person, .int .i64 code, .int .i64 now], .agg [.int .i64 sa, .int .i64 sb', .int .i64 sc, .int .i64 0], .agg [.int .i64 sa, .int .i64 sb', .int .i64 sc, .int .i64 now], .agg [.int .i64 sa, .int .i64 sb', .int .i64 sc, .int .i64 (now % 24)], .agg [.int .i64 sa, .int .i64 person, .int .i64 code, .int .i64 0]] = QL2 at *
  refine awp_upG [20, 37, 38, 39, 40, 41, 163, 164, 165, 166, 167, 168, 169, 170, 171, 172, 173, 174, 175, 176, 177, 178, 179, 180, 181, 182, 183, 184, 185, 186, 187, 188, 189, 190, 191, 192, 193, 194, 195, 196, 197, 198, 199, 200, 201, 202, 203, 204, 205, 206, 207, 208, 209, 210, 211, 212, 213, 214, 215, 216, 217, 218, 219, 220, 221, 222, 223, 224, 225, 226, 227, 228, 229, 230, 231, 232, 233, 234, 235, 236, 237] (by kernel_rfl) 5 (fun j e σ => e 163 = .int .i64 j ∧ q3 ≤ σ.n ∧ σ.ob q1 = some ⟨c1, 3, 31, false, true, [dkv M]⟩) ?_ ?_
  ·exact ⟨(by first | rfl | (simp (disch := omega) only [go_sem, jA, jB, jC, jD, jE, jF, jG, jH, jI, jJ, ↓reduceIte, reduceCtorEq, jP, jO, jM, jN]; try rfl)), Nat.le_refl _, xq⟩
  clear xq
  rintro j fe3 ob4 q5 c5 hj hq5 ⟨hjj, hq6, xq⟩
  simp (maxSteps := 1000000) only [go_sem, jA, jB, jC, jD, jE, jF, jG, jH, jI, jJ, ↓reduceIte, reduceCtorEq, jP] at hjj hq5 hq6 xq
  try simp (maxSteps := 500001) (disch := omega) only [go_sem, jA, jB, jC, jD, jE, jF, jG, jH, jI, jJ, ↓reduceIte, reduceCtorEq, jO, jM, jN, jK, jL, hjj]
  refine cond_d (fun hlt2 => ?_) (fun hge2 => ?_)
  ·have hjl : j < 5 := by omega
   obtain ⟨a, b, d, e, hs⟩ := hQ j (by omega)
   have b1 := s1 a b d e
   have b2 := s2 a b d e
   have b3 := s3 a b d e
   have d1 := t1 a b d e
   have d2 := t2 a b d e
   have d3 := t3 a b d e
   rw [decide_eq_true rfl] at b3 d3
   generalize sgnS M a b d e = R at *
   generalize wdrS M a b d e = W at *
   obtain ⟨R1, R2⟩ := R
   obtain ⟨W1, W2⟩ := W
   have z1 : ¬ q1 = q5 := by omega
   have z2 : ¬ q5 = q5 + 1 := by omega
   have z3 : ¬ q1 = q5 + 1 := by omega
   have z4 : ¬ q5 + 1 = q5 + 1 + 1 := by omega
   have z5 : ¬ q1 = q5 + 1 + 1 := by omega
   have z6 : ¬ q5 = q5 + 1 + 1 := by omega
   try simp (maxSteps := 500001) (disch := omega) only [go_sem, jA, jB, jC, jD, jE, jF, jG, jH, jI, jJ, ↓reduceIte, reduceCtorEq, jO, jM, jN, jK, jL, hjj, hs, hQl, xq, z1, z2, z3, dkv_flat, dkv_len, dkv_tk, dkv_dt, dkv_ct, dkv_ca]
   refine ⟨by omega, by omega, ?_⟩
   refine call_pc b1 (by simp [dkv_pur, go_sem]) ?_
   try simp (maxSteps := 500001) (disch := omega) only [go_sem, jA, jB, jC, jD, jE, jF, jG, jH, jI, jJ, ↓reduceIte, reduceCtorEq, jO, jM, jN, jK, jL, xq, z1, z2, z3, dkv_flat, dkv_len, dkv_tk, dkv_dt, dkv_ct, dkv_ca]
   refine call_pc b2 (by simp [dkv_pur, go_sem]) ?_
   try simp (maxSteps := 500001) (disch := omega) only [go_sem, jA, jB, jC, jD, jE, jF, jG, jH, jI, jJ, ↓reduceIte, reduceCtorEq, jO, jM, jN, jK, jL, xq, z1, z2, z3, z4, dkv_flat, dkv_len, dkv_tk, dkv_dt, dkv_ct, dkv_ca]
   refine call_pc b3 (by simp [dkv_pur]) ?_
   try simp (maxSteps := 500001) (disch := omega) only [go_sem, jA, jB, jC, jD, jE, jF, jG, jH, jI, jJ, ↓reduceIte, reduceCtorEq, jO, jM, jN, jK, jL, xq, z1, z2, z3, z4, z5, z6, dkv_flat, dkv_len, dkv_tk, dkv_dt, dkv_ct, dkv_ca]
   refine call_pc d1 (by simp [dkv_pur, go_sem]) ?_
   try simp (maxSteps := 500001) (disch := omega) only [go_sem, jA, jB, jC, jD, jE, jF, jG, jH, jI, jJ, ↓reduceIte, reduceCtorEq, jO, jM, jN, jK, jL, xq, z1, z2, z3, z4, z5, z6, dkv_flat, dkv_len, dkv_tk, dkv_dt, dkv_ct, dkv_ca, dkv_put2]
   refine call_pc d2 (by simp [dkv_pur, go_sem]) ?_
   try simp (maxSteps := 500001) (disch := omega) only [go_sem, jA, jB, jC, jD, jE, jF, jG, jH, jI, jJ, ↓reduceIte, reduceCtorEq, jO, jM, jN, jK, jL, xq, z1, z2, z3, z4, z5, z6, dkv_flat, dkv_len, dkv_tk, dkv_dt, dkv_ct, dkv_ca, dkv_put2]
   refine call_pc d3 (by simp [dkv_pur]) ?_
   try simp (maxSteps := 500001) (disch := omega) only [go_sem, jA, jB, jC, jD, jE, jF, jG, jH, jI, jJ, ↓reduceIte, reduceCtorEq, jO, jM, jN, jK, jL, hjj]
   refine up_nextG q5 hjl (by omega) ⟨(by first | rfl | (simp (disch := omega) only [go_sem, jA, jB, jC, jD, jE, jF, jG, jH, jI, jJ, ↓reduceIte, reduceCtorEq, jP, jO, jM, jN]; try rfl)), by simp only [St.trunc]; omega, ?_⟩
   simp only [St.trunc]; rw [if_pos (by omega)]; repeat rw [upd_ne _ _ _ _ (by omega)]
   exact xq
  clear hge2 hjj hj
  try simp (maxSteps := 500001) (disch := omega) only [go_sem, jA, jB, jC, jD, jE, jF, jG, jH, jI, jJ, ↓reduceIte, reduceCtorEq, jO, jM, jN, jK, jL, hii]
  exact up_nextG q5 hil (by omega) ⟨(by first | rfl | (simp (disch := omega) only [go_sem, jA, jB, jC, jD, jE, jF, jG, jH, jI, jJ, ↓reduceIte, reduceCtorEq, jP, jO, jM, jN]; try rfl)), by simp only [St.trunc]; omega⟩
 ·try simp (disch := omega) only [go_sem, jA, jB, jC, jD, jE, jF, jG, jH, jI, jJ, ↓reduceIte, reduceCtorEq, jO, jM, jN, jK, jL]
  exact Pub.pure rfl
theorem law_law26_DeviationDoes {c0 c1 c2 c3 c4 c5 c6 c7 c8 c9 : List AV} (s0 : (Sh.slice 1 (.int .i64)).R c0) (s1 : shDk.R c1) (s2 : (Sh.int .i64).R c2) (s3 : (Sh.int .i64).R c3) (s4 : (Sh.int .i64).R c4) (s5 : (Sh.int .i64).R c5) (s6 : (Sh.int .i64).R c6) (s7 : (Sh.int .i64).R c7) (s8 : (Sh.int .i64).R c8) (s9 : (Sh.int .i64).R c9) :
  PC prog n_law26_DeviationDoes [(Sh.slice 1 (.int .i64)).mk1 c0, shDk.mk1 c1, (Sh.int .i64).mk1 c2, (Sh.int .i64).mk1 c3, (Sh.int .i64).mk1 c4, (Sh.int .i64).mk1 c5, (Sh.int .i64).mk1 c6, (Sh.int .i64).mk1 c7, (Sh.int .i64).mk1 c8, (Sh.int .i64).mk1 c9] (.bool true) := by
 obtain ⟨l0, rfl, _, _⟩ := shInts s0
 obtain ⟨K, hK, h1, h2, h3⟩ := shDkR s1
 obtain ⟨a2, rfl, _⟩ := s2
 obtain ⟨a3, rfl, _⟩ := s3
 obtain ⟨a4, rfl, _⟩ := s4
 obtain ⟨a5, rfl, _⟩ := s5
 obtain ⟨a6, rfl, _⟩ := s6
 obtain ⟨a7, rfl, _⟩ := s7
 obtain ⟨a8, rfl, _⟩ := s8
 obtain ⟨a9, rfl, _⟩ := s9
 rw [hK]
 exact ok_law26_DeviationDoes l0 K a2 a3 a4 a5 a6 a7 a8 a9 ⟨⟨h1, h2⟩, h3⟩
end Go.Proofs.Try
