/- OWN WORK, put together by tools/asm.py, seat.py, mini.py. -/
import Derived.Test.YtmjcbljjnhmmnaaLibD
set_option linter.unusedSimpArgs false
set_option linter.unusedVariables false
set_option maxRecDepth 100000
set_option maxHeartbeats 1000000
namespace Go.Proofs.Try
open Go.Ab Go
open Int renaming reduceEq → jA, reduceLT → jB, reduceLE → jC, reduceToNat → jD
open Go.Ab renaming w_ite_ne → jM, w_ite_lt → jN, wrap_id → jO, w_app_nl → jP
open Nat renaming reduceLT → jE, reduceEqDiff → jF, reduceAdd → jG, reduceLeDiff → jH, reduceSub → jI, reduceMul → jJ, sub_zero → jK, sub_self → jL
theorem run_overlaps_list {P : Program} (w : World) (tS tR e : TypeId) (ht : P.underlying tS = some (.slice e)) (size : Nat) (hz : ∀ w, (Go.sizeOf e).run P w = .ok size w)
  (a b : Addr) (la ca lb cb : Nat) (hne : a.block ≠ b.block) (tA tB : TypeId) (kA kB : Nat)
  (hsa : w.shape? a.block = some (tA, kA)) (hsb : w.shape? b.block = some (tB, kB)) (hkA : kA ≠ 0)
  (hfb : w.frozen? b = false) (hfe : w.frozen? { block := b.block, off := kB } = false) :
  (Extern.SlicesOverlaps.overlaps #[tS, tS] #[tR] #[.slice (some a) la ca, .slice (some b) lb cb]).run P w = .ok (.bool false) w := by
 have hnb : (a.block != b.block) = true := by simpa using hne
 have hnb' : (a.block == b.block) = false := by simpa using hne
 obtain ⟨r, hr⟩ : ∃ r, Extern.SlicesOverlaps.overlaps #[tS, tS] #[tR] #[.slice (some a) la ca, .slice (some b) lb cb] = r := ⟨_, rfl⟩
 rw [hr]
 unfold Extern.SlicesOverlaps.overlaps at hr
 conv at hr => lhs; whnf
 have ht0 : P.underlying (#[tS, tS][0]) = some (.slice e) := ht
 have pb : ∀ {α : Type} (x : α) (f : α → Sem Value), (pure x : Sem α).bind f = f x := fun _ _ => rfl
 rw [← hr]
 cases kA with
 | zero => exact absurd rfl hkA
 | succ kA =>
  by_cases h0 : la = 0 ∨ lb = 0 ∨ size = 0
  ·simp [Sem.run, Sem.bind, ht0, ht, pb, hz, h0]
  ·cases hfa : w.frozen? a <;> cases hfa2 : w.frozen? { block := a.block, off := kA + 1 } <;>
    simp [Sem.run, Sem.bind, ht0, ht, pb, hz, h0, hnb, hnb', frozen, noView, viewAt, mayBeOne, stringish, shape, hsa, hsb, hfa, hfa2, hfb, hfe]
theorem HC_ovl_l {P : Program} {σ : St} {f : Nat} {tS tR : TypeId} (he : extOf P f = some (Extern.SlicesOverlaps.overlaps #[tS, tS] #[tR])) (ht : eltOf P tS = true)
  {es : Nat} {L : List AV} {id' g' es' off' n' c' : Nat} {o' : AObj} (hL : L ≠ []) (hes : 0 < es) (ho' : σ.ob id' = some o') (hg' : o'.g = g') (hro : o'.ro = false) (hap : o'.ap = true) :
  HC P f [.list es L, .slk id' g' es' off' n' c'] σ fun r σ' => r = .bool false ∧ σ' = σ := by
 subst hg'
 refine ⟨(run_extOf he).1, fun m S w vs hS hv => .inr ?_⟩
 obtain ⟨v1, v2, rfl⟩ : ∃ v1 v2, vs = [v1, v2] := by
  match vs, hv.1 with
  | [a, b], _ => exact ⟨a, b, rfl⟩
 have h1 := hv.2 0 _ v1 rfl rfl
 have h2 := hv.2 1 _ v2 rfl rfl
 obtain ⟨b', len', hu', rfl, hcap'⟩ := h2.of_slk
 obtain ⟨v', hm', ⟨_, hes', xs', hown', _⟩, hSb⟩ := hS.obj id' o' ho'
 rw [hu'] at hm'; obtain rfl := Option.some.inj hm'
 rcases (hown'.own rfl).2 with ⟨h, _⟩ | ⟨b2, len2, cap2, cur2, fr2, h, hgb2, hnc2, hcm2, hsz2, htk2, hfr2, hfr02⟩
 ·cases h
 cases h
 obtain rfl := hfr02 hap
 cases h1 with
 | pure h1 =>
  cases h1 with
  | listNil => exact absurd rfl hL
  | @list _ _ b o cap ff hl' hcap hSS hc hw hvv =>
   obtain ⟨hSb1, cs, t, fr, hgb⟩ := hSS
   have hbb : b ≠ b' := fun e => (hSb b' rfl).2 hro (e ▸ hSb1)
   have hcell := hw 0 0 (by cases L with
    | nil => exact absurd rfl hL
    | cons x r => simp) hes
   have hk1 : cs.size ≠ 0 := by
    simp only [World.cell?, hgb] at hcell
    intro h0
    have : cs = #[] := Array.eq_empty_of_size_eq_zero h0
    subst this
    simp at hcell
   unfold eltOf at ht
   split at ht
   ·rename_i e hue
    obtain ⟨i, hi⟩ := Option.isSome_iff_exists.1 ht
    refine ⟨.bool false, w, ?_, .bool false, σ, m, S, .bool false, rfl, ⟨rfl, rfl⟩, ?_, Ext.refl m S w, .pure (.bool false)⟩
    ·rw [(run_extOf he).2]
     rw [run_overlaps_list w tS tR e hue i.size (fun w => run_sizeOf' hi w) ⟨b, o, none⟩ ⟨b', off' * es', none⟩ L.length cap n' (c' - off') hbb t o'.ty cs.size cur2.size
      (by simp [World.shape?, hgb]) (by simp [World.shape?, hgb2]) hk1 (by simp [World.frozen?, hgb2]) (by simp [World.frozen?, hgb2])]
     rfl
    ·exact ⟨hS, ⟨rfl, rfl, rfl, Nat.le_refl _, fun _ _ _ => rfl, fun k o v b ho hro hm hb => .inl ⟨k, o, v, ho, hro, hm, hb⟩, fun b hb => .inl hb⟩⟩
   ·cases ht
theorem hcL_slices_Insert__Warning (σ : St) (id g : Nat) (L : List AV) (x : AV) (i : Nat) (hx : okE 4 x) (hob : σ.ob id = some ⟨g, 4, tyA, false, true, L⟩)
  (hid : id < σ.n) (hi : i ≤ L.length) (hl : L.length ≤ 1000000) :
  HC prog n_slices_Insert__Warning [.sl id g 4 0 L.length, .int .i64 i, .list 4 [x]] σ (InsO σ id 4 tyA (L.take i ++ x :: L.drop i)) := by
 obtain ⟨ob0, n0, c0⟩ := σ
 simp only at hob hid
 by_cases h0 : i = L.length
 ·subst h0
  refine HC_of_body b_slices_Insert__Warning (by simp) ?_
  simp only [c_slices_Insert__Warning, go_sem, jA, jB, jC, jD, jE, jF, jG, jH, jI, jJ, ↓reduceIte, reduceCtorEq, jP]
  try simp (disch := omega) only [go_sem, jA, jB, jC, jD, jE, jF, jG, jH, jI, jJ, ↓reduceIte, reduceCtorEq, jO, jM, jN, jK, jL]
  refine ⟨⟨_, hob, rfl⟩, by omega, by omega, ?_, fun h => absurd h (by omega)⟩
  try simp (disch := omega) only [go_sem, jA, jB, jC, jD, jE, jF, jG, jH, jI, jJ, ↓reduceIte, reduceCtorEq, jO, jM, jN, jK, jL, hob]
  repeat (refine And.intro (by first | omega | (rw [mxL]; omega) | (simp [maxLen]; done) | (simp [maxLen]; omega)) ?_)
  have e : L.take L.length ++ x :: L.drop L.length = L ++ [x] := by simp
  rw [e]
  exact ⟨id, c0, by simp, .inl rfl, hid, Nat.le_refl _, upd_same _ _ _, fun k _ hk => upd_ne _ _ _ _ hk⟩
 refine HC.clip (R := fun r τ => (∃ c, r = .slk id g 4 0 (L.length + 1) c ∧ τ = ⟨upd ob0 id (some ⟨g, 4, tyA, false, true, L.take i ++ x :: L.drop i⟩), n0, c0⟩) ∨
  (r = .sl n0 c0 4 0 (L.length + 1) ∧ τ = ⟨upd ob0 n0 (some ⟨c0, 4, tyA, false, true, L.take i ++ x :: L.drop i⟩), n0 + 1, c0 + 1⟩)) (HC.slk hob rfl (by omega) rfl (fun c hc hcm => ?_) (by omega)) ?_
 ·refine HC_of_body b_slices_Insert__Warning (by simp) ?_
  simp only [c_slices_Insert__Warning, go_sem, jA, jB, jC, jD, jE, jF, jG, jH, jI, jJ, ↓reduceIte, reduceCtorEq, jP]
  have hne1 : ¬ ((i : Int) = (L.length : Int)) := by omega
  try simp (disch := omega) only [go_sem, jA, jB, jC, jD, jE, jF, jG, jH, jI, jJ, ↓reduceIte, reduceCtorEq, jO, jM, jN, jK, jL, hne1]
  refine ⟨hc, by omega, by omega, fun h => by omega, fun _ => ?_⟩
  refine cond_d (fun hgrow => ?_) (fun hroom => ?_)
  ·have hcl : c = L.length := by omega
   subst hcl
   try simp (disch := omega) only [go_sem, jA, jB, jC, jD, jE, jF, jG, jH, jI, jJ, ↓reduceIte, reduceCtorEq, jO, jM, jN, jK, jL]
   refine ⟨by omega, by omega, by omega, fun h => by omega, fun _ => ?_⟩
   refine appz_k ?_
   have htn : ((L.length : Int) + 1 - (i : Int)).toNat = L.length + 1 - i := by omega
   try simp (disch := omega) only [go_sem, jA, jB, jC, jD, jE, jF, jG, jH, jI, jJ, ↓reduceIte, reduceCtorEq, jO, jM, jN, jK, jL, hob, htn]
   refine ⟨by omega, by omega, by omega, by omega, by omega, by omega, by omega, fun h => by omega, fun _ => ?_⟩
   have hn2 : ¬ n0 = id := by omega
   try simp (disch := omega) only [go_sem, jA, jB, jC, jD, jE, jF, jG, jH, jI, jJ, ↓reduceIte, reduceCtorEq, jO, jM, jN, jK, jL, hob]
   have hin : ((i : Int) + 1).toNat = i + 1 := by omega
   try simp (disch := omega) only [go_sem, jA, jB, jC, jD, jE, jF, jG, jH, jI, jJ, ↓reduceIte, reduceCtorEq, jO, jM, jN, jK, jL, hob, hin]
   refine ⟨by simp; omega, by omega, by omega, by omega, fun h => by omega, fun _ => ⟨by omega, by omega, fun h => by omega, fun _ => ?_⟩⟩
   refine cpy_sk ?_
   try simp (disch := omega) only [go_sem, jA, jB, jC, jD, jE, jF, jG, jH, jI, jJ, ↓reduceIte, reduceCtorEq, jO, jM, jN, jK, jL, hob]
   rw [insG1 (by omega) (by omega) (by omega)]
   refine ⟨by omega, by simp; omega, .inr ⟨by rw [show i + (L.length + 1 - i) = L.length + 1 by omega], ?_⟩⟩
   rw [insG2 (by omega) (by omega) (by omega) (by simp; omega)]
   simp only [upd_upd]
  ·have hin : ((i : Int) + 1).toNat = i + 1 := by omega
   have hln : ((L.length : Int) + 1).toNat = L.length + 1 := by omega
   try simp (disch := omega) only [go_sem, jA, jB, jC, jD, jE, jF, jG, jH, jI, jJ, ↓reduceIte, reduceCtorEq, jO, jM, jN, jK, jL, hin, hln]
   repeat (refine And.intro (by first | omega | (rw [mxL]; omega) | (simp [maxLen]; done) | (simp [maxLen]; omega)) ?_)
   refine fun _ => ⟨by omega, by omega, by omega, fun h => by omega, fun _ => ?_⟩
   refine (HC_ovl_l (σ := ⟨ob0, n0, c0⟩) x_slices_overlaps__Warning xt_slices_overlaps__Warning (by simp) (by omega) hob rfl rfl rfl).mono ?_
   rintro _ _ ⟨rfl, rfl⟩
   try simp (disch := omega) only [go_sem, jA, jB, jC, jD, jE, jF, jG, jH, jI, jJ, ↓reduceIte, reduceCtorEq, jO, jM, jN, jK, jL, hin]
   refine ⟨by omega, by omega, by omega, fun h => by omega, fun _ => ⟨by omega, by omega, by omega, fun h => by omega, fun _ => ?_⟩⟩
   refine cpy_kk ?_
   try simp (disch := omega) only [go_sem, jA, jB, jC, jD, jE, jF, jG, jH, jI, jJ, ↓reduceIte, reduceCtorEq, jO, jM, jN, jK, jL, hob]
   rw [insR1 (by omega) (by omega) (by omega)]
   refine ⟨by omega, by omega, by omega, by omega, by omega, by omega, fun h => by omega, fun _ => ?_⟩
   rw [insR2 (by omega) (by omega) (by omega)]
   refine ⟨by omega, by simp; omega, c, rfl, ?_⟩
   rw [upd_upd]
 ·rintro r τ (⟨c, rfl, rfl⟩ | ⟨rfl, rfl⟩)
  ·refine ⟨.sl id g 4 0 (L.length + 1), upd ob0 id (some ⟨g, 4, tyA, false, true, L.take i ++ x :: L.drop i⟩), .inr ⟨id, g, 4, 0, _, c, rfl, rfl⟩, fun q o hq => ⟨o, hq, rfl, rfl, rfl, rfl, rfl, o.l.length, by simp, .inl rfl⟩, ?_⟩
   have hlen : (L.take i ++ x :: L.drop i).length = L.length + 1 := by simp; omega
   refine ⟨id, g, by rw [hlen], .inl rfl, hid, Nat.le_refl _, upd_same _ _ _, fun k _ hk => upd_ne _ _ _ _ hk⟩
  ·refine ⟨.sl n0 c0 4 0 (L.length + 1), upd ob0 n0 (some ⟨c0, 4, tyA, false, true, L.take i ++ x :: L.drop i⟩), .inl rfl, fun q o hq => ⟨o, hq, rfl, rfl, rfl, rfl, rfl, o.l.length, by simp, .inl rfl⟩, ?_⟩
   have hlen : (L.take i ++ x :: L.drop i).length = L.length + 1 := by simp; omega
   exact ⟨n0, c0, by rw [hlen], .inr (Nat.le_refl _), Nat.lt_succ_self _, Nat.le_succ _, upd_same _ _ _, fun k hk _ => upd_ne _ _ _ _ (by simp only at hk; omega)⟩
theorem hcL_slices_Insert__Cause (σ : St) (id g : Nat) (L : List AV) (x : AV) (i : Nat) (hx : okE 2 x) (hob : σ.ob id = some ⟨g, 2, ty_el_Cause, false, true, L⟩)
  (hid : id < σ.n) (hi : i ≤ L.length) (hl : L.length ≤ 1000000) :
  HC prog n_slices_Insert__Cause [.sl id g 2 0 L.length, .int .i64 i, .list 2 [x]] σ (InsO σ id 2 ty_el_Cause (L.take i ++ x :: L.drop i)) := by
 obtain ⟨ob0, n0, c0⟩ := σ
 simp only at hob hid
 by_cases h0 : i = L.length
 ·subst h0
  refine HC_of_body b_slices_Insert__Cause (by simp) ?_
  simp only [c_slices_Insert__Cause, go_sem, jA, jB, jC, jD, jE, jF, jG, jH, jI, jJ, ↓reduceIte, reduceCtorEq, jP]
  try simp (disch := omega) only [go_sem, jA, jB, jC, jD, jE, jF, jG, jH, jI, jJ, ↓reduceIte, reduceCtorEq, jO, jM, jN, jK, jL]
  refine ⟨⟨_, hob, rfl⟩, by omega, by omega, ?_, fun h => absurd h (by omega)⟩
  try simp (disch := omega) only [go_sem, jA, jB, jC, jD, jE, jF, jG, jH, jI, jJ, ↓reduceIte, reduceCtorEq, jO, jM, jN, jK, jL, hob]
  repeat (refine And.intro (by first | omega | (rw [mxL]; omega) | (simp [maxLen]; done) | (simp [maxLen]; omega)) ?_)
  have e : L.take L.length ++ x :: L.drop L.length = L ++ [x] := by simp
  rw [e]
  exact ⟨id, c0, by simp, .inl rfl, hid, Nat.le_refl _, upd_same _ _ _, fun k _ hk => upd_ne _ _ _ _ hk⟩
 refine HC.clip (R := fun r τ => (∃ c, r = .slk id g 2 0 (L.length + 1) c ∧ τ = ⟨upd ob0 id (some ⟨g, 2, ty_el_Cause, false, true, L.take i ++ x :: L.drop i⟩), n0, c0⟩) ∨
  (r = .sl n0 c0 2 0 (L.length + 1) ∧ τ = ⟨upd ob0 n0 (some ⟨c0, 2, ty_el_Cause, false, true, L.take i ++ x :: L.drop i⟩), n0 + 1, c0 + 1⟩)) (HC.slk hob rfl (by omega) rfl (fun c hc hcm => ?_) (by omega)) ?_
 ·refine HC_of_body b_slices_Insert__Cause (by simp) ?_
  simp only [c_slices_Insert__Cause, go_sem, jA, jB, jC, jD, jE, jF, jG, jH, jI, jJ, ↓reduceIte, reduceCtorEq, jP]
  have hne1 : ¬ ((i : Int) = (L.length : Int)) := by omega
  try simp (disch := omega) only [go_sem, jA, jB, jC, jD, jE, jF, jG, jH, jI, jJ, ↓reduceIte, reduceCtorEq, jO, jM, jN, jK, jL, hne1]
  refine ⟨hc, by omega, by omega, fun h => by omega, fun _ => ?_⟩
  refine cond_d (fun hgrow => ?_) (fun hroom => ?_)
  ·have hcl : c = L.length := by omega
   subst hcl
   try simp (disch := omega) only [go_sem, jA, jB, jC, jD, jE, jF, jG, jH, jI, jJ, ↓reduceIte, reduceCtorEq, jO, jM, jN, jK, jL]
   refine ⟨by omega, by omega, by omega, fun h => by omega, fun _ => ?_⟩
   refine appz_k ?_
   have htn : ((L.length : Int) + 1 - (i : Int)).toNat = L.length + 1 - i := by omega
   try simp (disch := omega) only [go_sem, jA, jB, jC, jD, jE, jF, jG, jH, jI, jJ, ↓reduceIte, reduceCtorEq, jO, jM, jN, jK, jL, hob, htn]
   refine ⟨by omega, by omega, by omega, by omega, by omega, by omega, by omega, fun h => by omega, fun _ => ?_⟩
   have hn2 : ¬ n0 = id := by omega
   try simp (disch := omega) only [go_sem, jA, jB, jC, jD, jE, jF, jG, jH, jI, jJ, ↓reduceIte, reduceCtorEq, jO, jM, jN, jK, jL, hob]
   have hin : ((i : Int) + 1).toNat = i + 1 := by omega
   try simp (disch := omega) only [go_sem, jA, jB, jC, jD, jE, jF, jG, jH, jI, jJ, ↓reduceIte, reduceCtorEq, jO, jM, jN, jK, jL, hob, hin]
   refine ⟨by simp; omega, by omega, by omega, by omega, fun h => by omega, fun _ => ⟨by omega, by omega, fun h => by omega, fun _ => ?_⟩⟩
   refine cpy_sk ?_
   try simp (disch := omega) only [go_sem, jA, jB, jC, jD, jE, jF, jG, jH, jI, jJ, ↓reduceIte, reduceCtorEq, jO, jM, jN, jK, jL, hob]
   rw [insG1 (by omega) (by omega) (by omega)]
   refine ⟨by omega, by simp; omega, .inr ⟨by rw [show i + (L.length + 1 - i) = L.length + 1 by omega], ?_⟩⟩
   rw [insG2 (by omega) (by omega) (by omega) (by simp; omega)]
   simp only [upd_upd]
  ·have hin : ((i : Int) + 1).toNat = i + 1 := by omega
   have hln : ((L.length : Int) + 1).toNat = L.length + 1 := by omega
   try simp (disch := omega) only [go_sem, jA, jB, jC, jD, jE, jF, jG, jH, jI, jJ, ↓reduceIte, reduceCtorEq, jO, jM, jN, jK, jL, hin, hln]
   repeat (refine And.intro (by first | omega | (rw [mxL]; omega) | (simp [maxLen]; done) | (simp [maxLen]; omega)) ?_)
   refine fun _ => ⟨by omega, by omega, by omega, fun h => by omega, fun _ => ?_⟩
   refine (HC_ovl_l (σ := ⟨ob0, n0, c0⟩) x_slices_overlaps__Cause xt_slices_overlaps__Cause (by simp) (by omega) hob rfl rfl rfl).mono ?_
   rintro _ _ ⟨rfl, rfl⟩
   try simp (disch := omega) only [go_sem, jA, jB, jC, jD, jE, jF, jG, jH, jI, jJ, ↓reduceIte, reduceCtorEq, jO, jM, jN, jK, jL, hin]
   refine ⟨by omega, by omega, by omega, fun h => by omega, fun _ => ⟨by omega, by omega, by omega, fun h => by omega, fun _ => ?_⟩⟩
   refine cpy_kk ?_
   try simp (disch := omega) only [go_sem, jA, jB, jC, jD, jE, jF, jG, jH, jI, jJ, ↓reduceIte, reduceCtorEq, jO, jM, jN, jK, jL, hob]
   rw [insR1 (by omega) (by omega) (by omega)]
   refine ⟨by omega, by omega, by omega, by omega, by omega, by omega, fun h => by omega, fun _ => ?_⟩
   rw [insR2 (by omega) (by omega) (by omega)]
   refine ⟨by omega, by simp; omega, c, rfl, ?_⟩
   rw [upd_upd]
 ·rintro r τ (⟨c, rfl, rfl⟩ | ⟨rfl, rfl⟩)
  ·refine ⟨.sl id g 2 0 (L.length + 1), upd ob0 id (some ⟨g, 2, ty_el_Cause, false, true, L.take i ++ x :: L.drop i⟩), .inr ⟨id, g, 2, 0, _, c, rfl, rfl⟩, fun q o hq => ⟨o, hq, rfl, rfl, rfl, rfl, rfl, o.l.length, by simp, .inl rfl⟩, ?_⟩
   have hlen : (L.take i ++ x :: L.drop i).length = L.length + 1 := by simp; omega
   refine ⟨id, g, by rw [hlen], .inl rfl, hid, Nat.le_refl _, upd_same _ _ _, fun k _ hk => upd_ne _ _ _ _ hk⟩
  ·refine ⟨.sl n0 c0 2 0 (L.length + 1), upd ob0 n0 (some ⟨c0, 2, ty_el_Cause, false, true, L.take i ++ x :: L.drop i⟩), .inl rfl, fun q o hq => ⟨o, hq, rfl, rfl, rfl, rfl, rfl, o.l.length, by simp, .inl rfl⟩, ?_⟩
   have hlen : (L.take i ++ x :: L.drop i).length = L.length + 1 := by simp; omega
   exact ⟨n0, c0, by rw [hlen], .inr (Nat.le_refl _), Nat.lt_succ_self _, Nat.le_succ _, upd_same _ _ _, fun k hk _ => upd_ne _ _ _ _ (by simp only at hk; omega)⟩
def CpK (σ : St) (b : Bo) (j : Nat) (r : AV) (τ : St) : Prop :=
 ∃ X E, r = .agg [.list 4 (wts b.ps), .list 1 (lls b.pa), X] ∧ SlR 4 tyA τ (wnJ b.ac j E b.ac.length) X ∧ (b.ac.length ≤ j → E = .nil) ∧ (j < b.ac.length → SlR 2 tyC τ (css (gA b.ac j).cs) E) ∧ σ.n ≤ τ.n ∧
  (∀ i, ¬ Oth X i → σ.n ≤ i ∧ Oth E i) ∧ (∀ i, ¬ Oth E i → σ.n ≤ i) ∧ ∀ i, i < σ.n → τ.ob i = σ.ob i
def AsC (σ τ : St) : Prop := σ.n ≤ τ.n ∧ ∀ k, k < σ.n → τ.ob k = σ.ob k
def InsS (σ : St) (X : AV) (es : Nat) (ty : TypeId) (L : List AV) (r : AV) (τ : St) : Prop := SlR es ty τ L r ∧ Kp σ X τ r
theorem InsO.s {σ : St} {id g es n : Nat} {ty : TypeId} {L : List AV} {r : AV} {τ : St} (h : InsO σ id es ty L r τ) : InsS σ (.sl id g es 0 n) es ty L r τ := by
 obtain ⟨id', g', rfl, h1, h2, h3, h4, h5⟩ := h
 refine ⟨.inr ⟨id', g', rfl, h2, h4⟩, h3, fun i hi ho => h5 i hi fun e => ho.ne e.symm, fun i hi ho => Oth.sl fun e => ?_⟩
 rcases h1 with rfl | h1
 ·exact ho.ne e
 ·omega
section
open Classical
theorem hcK_cause_copied (σ : St) (b : Bo) (j : Nat) (hV : Vb b) : HC prog n_cause_copied [bov b] σ (CpK σ b j) := by
 refine HC.sealm (hc0_cause_copied σ b j hV) ?_
 rintro r τ ⟨Y, X, E, rfl, hY, hX, hE0, hE1, hn, hYn, hXn, hEn, ho⟩
 let keep : Nat → Bool := fun i => decide (i < σ.n ∨ ¬ Oth X i ∨ ¬ Oth E i)
 have hk : ∀ i, ¬ (i < σ.n ∨ ¬ Oth X i ∨ ¬ Oth E i) → (shut keep τ).ob i = τ.ob i := fun i hi => by simp only [shut, keep]; rw [if_neg]; simpa using hi
 have hob : ∀ i, (i < σ.n ∨ ¬ Oth X i ∨ ¬ Oth E i) → (if keep i then τ.ob i else none) = τ.ob i := fun i hi => by
  have : keep i = true := by simp only [keep, decide_eq_true_eq]; exact hi
  rw [this]; rfl
 refine ⟨keep, .agg [.list 4 (wts b.ps), .list 1 (lls b.pa), X], fun i => if keep i then τ.ob i else none, ?_, fun i o2 h => ?_, ?_⟩
 ·refine MP.ag (.cons (.same _) (.cons (.pub (hY.pub (fun i hi hh => hk i ?_) (lls_pur _) (lls_ok _))) (.cons (.same _) .nil)))
  have h1 := hYn i hh
  rintro (h2 | h2 | h2)
  ·omega
  ·exact h2 h1.2.1
  ·exact h2 h1.2.2
 ·cases hki : keep i with
  | false => simp [hki] at h
  | true => simp only [hki, if_true] at h; exact ⟨rfl, o2, h, .inl rfl⟩
 ·exact ⟨X, E, rfl, hX.move (Nat.le_refl _) fun i _ hh => hob i (.inr (.inl hh)), hE0, fun h => (hE1 h).move (Nat.le_refl _) fun i _ hh => hob i (.inr (.inr hh)), hn, hXn, hEn, fun i hi => (hob i (.inl hi)).trans (ho i hi)⟩
end
theorem ok_cause_copied (b : Bo) (hV : Vb b) : PC prog n_cause_copied [bov b] (bov b) := by
 refine PC_of_HC b_cause_copied ((hc0_cause_copied St.empty b b.ac.length hV).mono ?_)
 rintro r τ ⟨Y, X, E, rfl, hY, hX, _, _, _, _, _, _, _⟩
 rw [wnJ_le (Nat.le_refl _), List.take_length] at hX
 exact Pub.ag (.cons (Pub.e (by simp [go_sem, wts_pur])) (.cons (hY.pub (fun _ _ _ => rfl) (lls_pur _) (lls_ok _)) (.cons (hX.pub (fun _ _ _ => rfl) (wns_pur _) (wns_ok _)) .nil)))
theorem hcS_slices_Insert__Cause (σ : St) (X : AV) (L : List AV) (x : AV) (i : Nat) (hX : SlR 2 tyC σ L X) (hx : okE 2 x) (hi : i ≤ L.length) (hl : L.length ≤ 1000000) :
  HC prog n_slices_Insert__Cause [X, .int .i64 i, .list 2 [x]] σ (InsS σ X 2 tyC (L.take i ++ x :: L.drop i)) := by
 rcases hX with ⟨rfl, rfl⟩ | ⟨id, g, rfl, hid, hob⟩
 ·obtain ⟨ob0, n0, c0⟩ := σ
  obtain rfl : i = 0 := by simpa using hi
  show HC prog n_slices_Insert__Cause [.nil, .int .i64 0, .list 2 [x]] _ _
  refine HC_of_body b_slices_Insert__Cause (by simp) ?_
  simp only [c_slices_Insert__Cause, go_sem, jA, jB, jC, jD, jE, jF, jG, jH, jI, jJ, ↓reduceIte, reduceCtorEq, jP]
  try simp (disch := omega) only [go_sem, jA, jB, jC, jD, jE, jF, jG, jH, jI, jJ, ↓reduceIte, reduceCtorEq, jO, jM, jN, jK, jL]
  repeat (refine And.intro (by first | omega | (rw [mxL]; omega) | (simp [maxLen]; done) | (simp [maxLen]; omega)) ?_)
  try simp (disch := omega) only [go_sem, jA, jB, jC, jD, jE, jF, jG, jH, jI, jJ, ↓reduceIte, reduceCtorEq, jO, jM, jN, jK, jL]
  refine app_slr (L := []) SlR.nil (by simp) (by simp) fun X' τ hX' kX => ?_
  try simp (disch := omega) only [go_sem, jA, jB, jC, jD, jE, jF, jG, jH, jI, jJ, ↓reduceIte, reduceCtorEq, jO, jM, jN, jK, jL]
  exact ⟨hX', kX⟩
 ·exact (hcL_slices_Insert__Cause σ id g L x i hx hob hid hi hl).mono fun r τ h => h.s
theorem hcS_slices_Insert__Warning (σ : St) (X : AV) (L : List AV) (x : AV) (i : Nat) (hX : SlR 4 tyA σ L X) (hx : okE 4 x) (hi : i ≤ L.length) (hl : L.length ≤ 1000000) :
  HC prog n_slices_Insert__Warning [X, .int .i64 i, .list 4 [x]] σ (InsS σ X 4 tyA (L.take i ++ x :: L.drop i)) := by
 rcases hX with ⟨rfl, rfl⟩ | ⟨id, g, rfl, hid, hob⟩
 ·obtain ⟨ob0, n0, c0⟩ := σ
  obtain rfl : i = 0 := by simpa using hi
  show HC prog n_slices_Insert__Warning [.nil, .int .i64 0, .list 4 [x]] _ _
  refine HC_of_body b_slices_Insert__Warning (by simp) ?_
  simp only [c_slices_Insert__Warning, go_sem, jA, jB, jC, jD, jE, jF, jG, jH, jI, jJ, ↓reduceIte, reduceCtorEq, jP]
  try simp (disch := omega) only [go_sem, jA, jB, jC, jD, jE, jF, jG, jH, jI, jJ, ↓reduceIte, reduceCtorEq, jO, jM, jN, jK, jL]
  repeat (refine And.intro (by first | omega | (rw [mxL]; omega) | (simp [maxLen]; done) | (simp [maxLen]; omega)) ?_)
  try simp (disch := omega) only [go_sem, jA, jB, jC, jD, jE, jF, jG, jH, jI, jJ, ↓reduceIte, reduceCtorEq, jO, jM, jN, jK, jL]
  refine app_slr (L := []) SlR.nil (by simp) (by simp) fun X' τ hX' kX => ?_
  try simp (disch := omega) only [go_sem, jA, jB, jC, jD, jE, jF, jG, jH, jI, jJ, ↓reduceIte, reduceCtorEq, jO, jM, jN, jK, jL]
  exact ⟨hX', kX⟩
 ·exact (hcL_slices_Insert__Warning σ id g L x i hx hob hid hi hl).mono fun r τ h => h.s
def CbC (σ : St) (E : AV) (f : Nat) (caps : List AV) (q : Cs → Bool) : Prop :=
 ∀ (τ : St) (x : Cs), σ.n ≤ τ.n → (∀ k, k < σ.n → Oth E k → τ.ob k = σ.ob k) → HC prog f (csv x :: caps) τ (fun r τ' => r = .bool (q x) ∧ AsC τ τ')
theorem hc_slices_IndexFunc__Cause (σ : St) (E : AV) (l : List Cs) (f : Nat) (caps : List AV) (q : Cs → Bool) (hE : SlR 2 tyC σ (css l) E) (hl : l.length ≤ 1000000) (hcb : CbC σ E f caps q) :
  HC prog n_slices_IndexFunc__Cause [E, .func f caps] σ (fun r τ => r = .int .i64 (match l.findIdx? q with | some i => (i : Int) | none => -1) ∧ AsC σ τ) := by
 have hE' := hE
 rcases hE with ⟨rfl, hn⟩ | ⟨id, g, rfl, hid, hob⟩
 ·obtain rfl : l = [] := by simpa [css] using hn
  refine HC_of_body b_slices_IndexFunc__Cause (by simp) ?_
  simp only [c_slices_IndexFunc__Cause, go_sem, jA, jB, jC, jD, jE, jF, jG, jH, jI, jJ, ↓reduceIte, reduceCtorEq, jP]
  try simp (disch := omega) only [go_sem, jA, jB, jC, jD, jE, jF, jG, jH, jI, jJ, ↓reduceIte, reduceCtorEq, jO, jM, jN, jK, jL]
  refine awp_upG [4, 5, 8, 9, 10, 11, 12, 13, 14, 15, 16, 17, 18] (by kernel_rfl) 0 (fun k e τ => e 8 = .int .i64 k ∧ τ = σ) ?_ ?_
  ·exact ⟨(by first | rfl | (simp (disch := omega) only [go_sem, jA, jB, jC, jD, jE, jF, jG, jH, jI, jJ, ↓reduceIte, reduceCtorEq, jP, jO, jM, jN]; try rfl)), rfl⟩
  rintro k fe ob m c2 hk hm ⟨hki, h2⟩
  obtain rfl : k = 0 := by omega
  simp (maxSteps := 1000000) only [go_sem, jA, jB, jC, jD, jE, jF, jG, jH, jI, jJ, ↓reduceIte, reduceCtorEq, jP] at hki
  try simp (disch := omega) only [go_sem, jA, jB, jC, jD, jE, jF, jG, jH, jI, jJ, ↓reduceIte, reduceCtorEq, jO, jM, jN, jK, jL, hki]
  exact ⟨rfl, by rw [h2]; exact ⟨Nat.le_refl _, fun _ _ => rfl⟩⟩
 obtain ⟨ob0, n0, c0⟩ := σ
 simp only at hob hid
 refine HC_of_body b_slices_IndexFunc__Cause (by simp) ?_
 simp only [c_slices_IndexFunc__Cause, go_sem, jA, jB, jC, jD, jE, jF, jG, jH, jI, jJ, ↓reduceIte, reduceCtorEq, jP]
 try simp (disch := omega) only [go_sem, jA, jB, jC, jD, jE, jF, jG, jH, jI, jJ, ↓reduceIte, reduceCtorEq, jO, jM, jN, jK, jL, css_length]
 refine awp_upG [4, 5, 8, 9, 10, 11, 12, 13, 14, 15, 16, 17, 18] (by kernel_rfl) l.length (fun k e τ => e 8 = .int .i64 k ∧ n0 ≤ τ.n ∧ (∀ i, i < n0 → τ.ob i = ob0 i) ∧ ∀ j, j < k → ∀ y, l[j]? = some y → q y = false) ?_ ?_
 ·exact ⟨(by first | rfl | (simp (disch := omega) only [go_sem, jA, jB, jC, jD, jE, jF, jG, jH, jI, jJ, ↓reduceIte, reduceCtorEq, jP, jO, jM, jN]; try rfl)), Nat.le_refl _, fun _ _ => rfl, fun j hj => by omega⟩
 rintro k fe ob m c2 hk hm ⟨hki, hm1, ho, hj⟩
 simp (maxSteps := 1000000) only [go_sem, jA, jB, jC, jD, jE, jF, jG, jH, jI, jJ, ↓reduceIte, reduceCtorEq, jP] at hki hm hm1 ho
 have hob' := (ho id hid).trans hob
 try simp (disch := omega) only [go_sem, jA, jB, jC, jD, jE, jF, jG, jH, jI, jJ, ↓reduceIte, reduceCtorEq, jO, jM, jN, jK, jL, hki, css_length]
 refine cond_d (fun hlt => ?_) (fun hge => ?_)
 ·have hkl : k < l.length := by omega
  have hk2 : l[k]? = some l[k] := List.getElem?_eq_getElem hkl
  have hnx := idx_next hk2 hj
  have hfi : q l[k] = true → l.findIdx? q = some k := fun h => by
   rw [List.findIdx?_eq_some_iff_getElem]
   exact ⟨hkl, h, fun j hjk => by have := hj j hjk l[j] (List.getElem?_eq_getElem (by omega)); simpa using this⟩
  have hcx := hcb ⟨ob, m, c2⟩ l[k] hm1 fun i hi _ => ho i hi
  generalize l[k] = y at *
  have hcsv : AV.agg ((csv y).cells.take 2) = csv y := rfl
  try simp (disch := omega) only [go_sem, jA, jB, jC, jD, jE, jF, jG, jH, jI, jJ, ↓reduceIte, reduceCtorEq, jO, jM, jN, jK, jL, hki, css_length, hob', css_get, hk2, Option.map_some, csv]
  simp only [csv] at hcx
  refine ⟨by omega, by omega, hcx.mono ?_⟩
  rintro r ⟨ob2, m2, c3⟩ ⟨rfl, hA1, hA2⟩
  simp only at hA1 hA2
  try simp (disch := omega) only [go_sem, jA, jB, jC, jD, jE, jF, jG, jH, jI, jJ, ↓reduceIte, reduceCtorEq, jO, jM, jN, jK, jL]
  refine cond_split (fun hq => ?_) (fun hq => ?_) <;> try simp (disch := omega) only [go_sem, jA, jB, jC, jD, jE, jF, jG, jH, jI, jJ, ↓reduceIte, reduceCtorEq, jO, jM, jN, jK, jL, hki]
  ·rw [hfi hq]
   exact ⟨rfl, by simp only; omega, fun i hi => by simp only at hi ⊢; rw [hA2 i (by omega), ho i hi]⟩
  ·exact up_nextG m2 hkl (by omega) ⟨(by first | rfl | (simp (disch := omega) only [go_sem, jA, jB, jC, jD, jE, jF, jG, jH, jI, jJ, ↓reduceIte, reduceCtorEq, jP, jO, jM, jN]; try rfl)), by simp only [St.trunc]; omega, fun i hi => by rw [tr_ob (by omega), hA2 i (by omega), ho i hi], hnx hq⟩
 ·obtain rfl : k = l.length := by omega
  try simp (disch := omega) only [go_sem, jA, jB, jC, jD, jE, jF, jG, jH, jI, jJ, ↓reduceIte, reduceCtorEq, jO, jM, jN, jK, jL]
  have : l.findIdx? q = none := by
   rw [List.findIdx?_eq_none_iff]
   intro x hx
   obtain ⟨i, hi⟩ := List.getElem?_of_mem hx
   exact hj i (List.getElem?_eq_some_iff.1 hi).1 x hi
  rw [this]
  exact ⟨rfl, hm1, ho⟩
theorem del_set {L : List Cs} {K : List Cs} {i : Nat} {v : Cs} (hi : i = K.length) (hil : i < L.length) : (css K ++ (css L).drop i).set i (csv v) = css (K ++ [v]) ++ (css L).drop (i + 1) := by
 subst hi
 have h1 : (css K).length = K.length := css_length K
 rw [List.set_append_right _ _ (by omega), h1, Nat.sub_self, List.drop_eq_getElem_cons (by rw [css_length]; exact hil), List.set_cons_zero, css_app]
 simp [css]
theorem del_get {L : List Cs} {K : List Cs} {i j : Nat} (hi : i = K.length) (hij : i ≤ j) : (css K ++ (css L).drop i)[j]? = (L[j]?).map csv := by
 subst hi
 have h1 : (css K).length = K.length := css_length K
 rw [List.getElem?_append_right (by omega), List.getElem?_drop, h1, css_get]
 congr 2; omega
theorem filt_lt {q : Cs → Bool} {L : List Cs} {i0 j : Nat} (h : L[i0]?.any q = true) (hj : i0 < j) (hjl : j ≤ L.length) : ((L.take j).filter fun x => !q x).length < j := by
 have h1 : ((L.take j).filter fun x => !q x).length < (L.take j).length := by
  rw [List.length_filter_lt_length_iff_exists]
  rw [Option.any_eq_true] at h
  obtain ⟨x, hx, hq⟩ := h
  exact ⟨x, by rw [List.mem_take_iff_getElem]; obtain ⟨h2, h3⟩ := List.getElem?_eq_some_iff.1 hx; exact ⟨i0, by omega, h3⟩, by simp [hq]⟩
 rw [List.length_take] at h1; omega
theorem filt_snoc {q : Cs → Bool} {L : List Cs} {j : Nat} (hj : j < L.length) : (L.take (j + 1)).filter (fun x => !q x) = (L.take j).filter (fun x => !q x) ++ (if q L[j] then [] else [L[j]]) := by
 rw [List.take_add_one, List.getElem?_eq_getElem hj, List.filter_append]
 cases h : q L[j] <;> simp [h]
theorem filt_pre {q : Cs → Bool} {L : List Cs} {i : Nat} (h : ∀ j, j < i → ∀ y, L[j]? = some y → q y = false) : (L.take i).filter (fun x => !q x) = L.take i := by
 rw [List.filter_eq_self]
 intro a ha
 rw [List.mem_take_iff_getElem] at ha
 obtain ⟨j, hj, rfl⟩ := ha
 simp [h j (by omega) _ (List.getElem?_eq_getElem (by omega))]
theorem hc_slices_DeleteFunc__Cause (σ : St) (E : AV) (l : List Cs) (f : Nat) (caps : List AV) (q : Cs → Bool) (hE : SlR 2 tyC σ (css l) E) (hl : l.length ≤ 1000000) (hcb : CbC σ E f caps q) :
  HC prog n_slices_DeleteFunc__Cause [E, .func f caps] σ (fun r τ => ER 2 τ (css (l.filter fun x => !q x)) r ∧ Kp σ E τ r) := by
 have hIF := hc_slices_IndexFunc__Cause σ E l f caps q hE hl hcb
 have hE' := hE
 obtain ⟨ob0, n0, c0⟩ := σ
 refine HC_of_body b_slices_DeleteFunc__Cause (by simp) ?_
 simp only [c_slices_DeleteFunc__Cause, go_sem, jA, jB, jC, jD, jE, jF, jG, jH, jI, jJ, ↓reduceIte, reduceCtorEq, jP]
 try simp (disch := omega) only [go_sem, jA, jB, jC, jD, jE, jF, jG, jH, jI, jJ, ↓reduceIte, reduceCtorEq, jO, jM, jN, jK, jL]
 refine hIF.mono ?_
 rintro r ⟨ob1, n1, c1⟩ ⟨rfl, hA1, hA2⟩
 simp only at hA1 hA2
 try simp (disch := omega) only [go_sem, jA, jB, jC, jD, jE, jF, jG, jH, jI, jJ, ↓reduceIte, reduceCtorEq, jO, jM, jN, jK, jL]
 have hE1 : SlR 2 tyC ⟨ob1, n1, c1⟩ (css l) E := hE.move hA1 fun i hi _ => hA2 i hi
 cases hfi : l.findIdx? q with
 | none =>
  have hall : l.filter (fun x => !q x) = l := by
   rw [List.findIdx?_eq_none_iff] at hfi
   rw [List.filter_eq_self]; intro a ha; simp [hfi a ha]
  try simp (disch := omega) only [go_sem, jA, jB, jC, jD, jE, jF, jG, jH, jI, jJ, ↓reduceIte, reduceCtorEq, jO, jM, jN, jK, jL]
  rw [hall]
  exact ⟨ER.of_slr hE1, hA1, fun i hi _ => hA2 i hi, fun i _ h => h⟩
 | some i0 =>
  rw [List.findIdx?_eq_some_iff_getElem] at hfi
  obtain ⟨hi0, hq0, hpre⟩ := hfi
  have hany : l[i0]?.any q = true := by rw [List.getElem?_eq_getElem hi0]; exact hq0
  have hne : ¬ ((i0 : Int) = -1) := by omega
  try simp (disch := omega) only [go_sem, jA, jB, jC, jD, jE, jF, jG, jH, jI, jJ, ↓reduceIte, reduceCtorEq, jO, jM, jN, jK, jL, hne]
  rcases hE1 with ⟨rfl, hn⟩ | ⟨id, g, rfl, hid, hob⟩
  ·have : l = [] := by simpa [css] using hn
   subst this; simp at hi0
  simp only at hid hob
  have hid0 : id < n0 := by
   rcases hE with ⟨h, _⟩ | ⟨id2, g2, h, h2, _⟩
   ·cases h
   ·cases h; exact h2
  rw [css_length] at *
  refine awp_upG [5, 6, 7, 16, 17, 18, 19, 20, 21, 22, 23, 24, 25, 26, 27, 28, 29, 30, 31, 32, 33, 34, 35] (by kernel_rfl) (l.length - (i0 + 1)) (fun k e τ => e 6 = .int .i64 ((i0 + 1 + k : Nat) : Int) ∧ n1 ≤ τ.n ∧ (∀ i, i < n1 → i ≠ id → τ.ob i = ob1 i) ∧ e 5 = .int .i64 (((l.take (i0 + 1 + k)).filter fun x => !q x).length : Int) ∧
   τ.ob id = some ⟨g, 2, tyC, false, true, css ((l.take (i0 + 1 + k)).filter fun x => !q x) ++ (css l).drop ((l.take (i0 + 1 + k)).filter fun x => !q x).length⟩) ?_ ?_
  ·have h1 : (l.take (i0 + 1 + 0)).filter (fun x => !q x) = l.take i0 := by
    rw [Nat.add_zero, filt_snoc hi0, hq0, if_pos rfl, List.append_nil, filt_pre fun j hj y hy => by
     have := hpre j hj
     rw [List.getElem?_eq_getElem (by omega)] at hy
     obtain rfl := Option.some.inj hy
     simpa using this]
   rw [h1]
   have h2 : (l.take i0).length = i0 := by rw [List.length_take]; omega
   refine ⟨(by first | rfl | (simp (disch := omega) only [go_sem, jA, jB, jC, jD, jE, jF, jG, jH, jI, jJ, ↓reduceIte, reduceCtorEq, jP, jO, jM, jN]; try rfl)), Nat.le_refl _, fun _ _ _ => rfl, by rw [h2]; try simp (disch := omega) only [go_sem, jA, jB, jC, jD, jE, jF, jG, jH, jI, jJ, ↓reduceIte, reduceCtorEq, jO, jM, jN, jK, jL], ?_⟩
   rw [h2, ← css_take, List.take_append_drop]; exact hob
  rintro k fe ob m c2 hk hm ⟨h6, hm1, ho, h5, hK⟩
  simp (maxSteps := 1000000) only [go_sem, jA, jB, jC, jD, jE, jF, jG, jH, jI, jJ, ↓reduceIte, reduceCtorEq, jP] at h6 hm hm1 ho h5 hK
  have hlt1 := filt_lt (j := i0 + 1 + k) hany (by omega) (by omega)
  try simp (disch := omega) only [go_sem, jA, jB, jC, jD, jE, jF, jG, jH, jI, jJ, ↓reduceIte, reduceCtorEq, jO, jM, jN, jK, jL, h6]
  refine cond_d (fun hlt => ?_) (fun hge => ?_)
  ·have hjl : i0 + 1 + k < l.length := by omega
   have hsn := filt_snoc (q := q) hjl
   have hgt := del_get (L := l) (K := (l.take (i0 + 1 + k)).filter fun x => !q x) (j := i0 + 1 + k) rfl (by omega)
   rw [List.getElem?_eq_getElem hjl] at hgt
   have hst := del_set (L := l) (K := (l.take (i0 + 1 + k)).filter fun x => !q x) (v := l[i0 + 1 + k]) rfl (by omega)
   have hKl : (css ((l.take (i0 + 1 + k)).filter fun x => !q x) ++ (css l).drop ((l.take (i0 + 1 + k)).filter fun x => !q x).length).length = l.length := by simp [css_length]; omega
   generalize l[i0 + 1 + k] = y at *
   generalize (l.take (i0 + 1 + k)).filter (fun x => !q x) = K at *
   have hcx := fun ob' c' h => hcb ⟨ob', m + 1, c'⟩ y (by simp only; omega) h
   have z1 : ¬ id = m := by omega
   have z2 : ¬ m = id := by omega
   have hcsv : AV.agg ((csv y).cells.take 2) = csv y := rfl
   have hjn : ((i0 + 1 + k : Nat) : Int).toNat = i0 + 1 + k := by omega
   try simp (disch := omega) only [go_sem, jA, jB, jC, jD, jE, jF, jG, jH, jI, jJ, ↓reduceIte, reduceCtorEq, jO, jM, jN, jK, jL, h6, hK, hgt, Option.map_some, csv, z1, z2, hjn]
   simp only [csv] at hcx
   refine ⟨by omega, by omega, (hcx _ _ fun i hi ho2 => ?_).mono ?_⟩
   ·have := ho2.ne
    rw [upd_ne _ _ _ _ (by omega), upd_ne _ _ _ _ (by omega), ho i (by omega) (by omega), hA2 i hi]
   rintro r ⟨ob3, m3, c3⟩ ⟨rfl, hB1, hB2⟩
   simp only at hB1 hB2
   have w1 := hB2 m (by omega)
   rw [upd_same] at w1
   have w2 := ((hB2 id (by omega)).trans (by rw [upd_ne _ _ _ _ z1, upd_ne _ _ _ _ z1])).trans hK
   have hfr : ∀ i, i < n1 → i ≠ id → ob3 i = ob1 i := fun i hi hne => by
    rw [hB2 i (by omega), upd_ne _ _ _ _ (by omega), upd_ne _ _ _ _ (by omega), ho i hi hne]
   try simp (disch := omega) only [go_sem, jA, jB, jC, jD, jE, jF, jG, jH, jI, jJ, ↓reduceIte, reduceCtorEq, jO, jM, jN, jK, jL]
   cases hq : q y
   ·rw [hq] at hsn
    simp only [Bool.false_eq_true, if_false] at hsn
    have hKn : (K.length : Int).toNat = K.length := by omega
    have hgk : (css K ++ (css l).drop K.length)[K.length]? = some ((css l)[K.length]'(by rw [css_length]; omega)) := by
     rw [List.getElem?_append_right (by rw [css_length]; omega), css_length, Nat.sub_self, List.getElem?_drop, Nat.add_zero, List.getElem?_eq_getElem]
    have hflat : ∀ x ∈ css l, setc 0 (csv y) x = csv y := fun x hx => by
     simp only [css, List.mem_map] at hx
     obtain ⟨z, _, rfl⟩ := hx
     rfl
    have hfl2 := hflat _ (List.getElem_mem (by rw [css_length]; omega : K.length < (css l).length))
    simp only [csv] at w1 w2 hst hfl2
    try simp (disch := omega) only [go_sem, jA, jB, jC, jD, jE, jF, jG, jH, jI, jJ, ↓reduceIte, reduceCtorEq, jO, jM, jN, jK, jL, h5, h6, w1, w2, z1, z2, hKn, hgk, hfl2, hst]
    refine ⟨by omega, by omega, ?_⟩
    refine up_nextG m3 (by omega) (by omega) ⟨by try simp (disch := omega) only [go_sem, jA, jB, jC, jD, jE, jF, jG, jH, jI, jJ, ↓reduceIte, reduceCtorEq, jO, jM, jN, jK, jL]; congr 1, by simp only [St.trunc]; omega, fun i hi hne => ?_, ?_, ?_⟩
    ·rw [tr_ob (by omega), upd_ne _ _ _ _ hne, hfr i hi hne]
    ·rw [show i0 + 1 + (k + 1) = i0 + 1 + k + 1 by omega, hsn]; try simp (disch := omega) only [go_sem, jA, jB, jC, jD, jE, jF, jG, jH, jI, jJ, ↓reduceIte, reduceCtorEq, jO, jM, jN, jK, jL]; simp
    ·rw [tr_ob (by omega), upd_same, show i0 + 1 + (k + 1) = i0 + 1 + k + 1 by omega, hsn]; simp
   ·rw [hq] at hsn
    simp only [if_true, List.append_nil] at hsn
    try simp (disch := omega) only [go_sem, jA, jB, jC, jD, jE, jF, jG, jH, jI, jJ, ↓reduceIte, reduceCtorEq, jO, jM, jN, jK, jL, h5, h6]
    refine up_nextG m3 (by omega) (by omega) ⟨by try simp (disch := omega) only [go_sem, jA, jB, jC, jD, jE, jF, jG, jH, jI, jJ, ↓reduceIte, reduceCtorEq, jO, jM, jN, jK, jL]; congr 1, by simp only [St.trunc]; omega, fun i hi hne => ?_, ?_, ?_⟩
    ·rw [tr_ob (by omega), hfr i hi hne]
    ·rw [show i0 + 1 + (k + 1) = i0 + 1 + k + 1 by omega, hsn]; try simp (disch := omega) only [go_sem, jA, jB, jC, jD, jE, jF, jG, jH, jI, jJ, ↓reduceIte, reduceCtorEq, jO, jM, jN, jK, jL, h5]
    ·rw [tr_ob (by omega), show i0 + 1 + (k + 1) = i0 + 1 + k + 1 by omega, hsn]; exact w2
  ·have hkn : i0 + 1 + k = l.length := by omega
   rw [hkn, List.take_length] at hK h5 hlt1
   generalize l.filter (fun x => !q x) = K at *
   have hKn : (K.length : Int).toNat = K.length := by omega
   have hKl : (css K ++ (css l).drop K.length).length = l.length := by simp [css_length]; omega
   try simp (disch := omega) only [go_sem, jA, jB, jC, jD, jE, jF, jG, jH, jI, jJ, ↓reduceIte, reduceCtorEq, jO, jM, jN, jK, jL, h5, hK, hKn]
   refine ⟨by omega, by omega, fun h => absurd h (by omega), fun _ => ?_⟩
   try simp (disch := omega) only [go_sem, jA, jB, jC, jD, jE, jF, jG, jH, jI, jJ, ↓reduceIte, reduceCtorEq, jO, jM, jN, jK, jL, h5, hK, hKn, hKl]
   refine ⟨by omega, ?_⟩
   try simp (disch := omega) only [go_sem, jA, jB, jC, jD, jE, jF, jG, jH, jI, jJ, ↓reduceIte, reduceCtorEq, jO, jM, jN, jK, jL]
   refine ⟨by omega, by omega, fun h0 => ?_, fun h0 => ?_⟩
   ·have : K = [] := List.eq_nil_of_length_eq_zero (by omega)
    subst this
    try simp (disch := omega) only [go_sem, jA, jB, jC, jD, jE, jF, jG, jH, jI, jJ, ↓reduceIte, reduceCtorEq, jO, jM, jN, jK, jL]
    exact ⟨.inr (.inl rfl), by simp only; omega, fun i hi hh => by have := hh.ne; simp only at hi ⊢; rw [upd_ne _ _ _ _ (by omega), ho i (by omega) (by omega), hA2 i hi], fun i _ _ => fun _ _ _ _ h => by cases h⟩
   ·try simp (disch := omega) only [go_sem, jA, jB, jC, jD, jE, jF, jG, jH, jI, jJ, ↓reduceIte, reduceCtorEq, jO, jM, jN, jK, jL]
    refine ⟨.inr (.inr ⟨id, g, 0, _, by rw [css_length], by simp only; omega, upd_same _ _ _, rfl, rfl, ?_, ?_⟩), by simp only; omega, fun i hi hh => by have := hh.ne; simp only at hi ⊢; rw [upd_ne _ _ _ _ (by omega), ho i (by omega) (by omega), hA2 i hi], fun i _ hh => Oth.sl hh.ne⟩
    ·simp [css_length]
    ·simp [css_length]
theorem wnJ_split {l : List Wn} {j : Nat} {E : AV} (h : j < l.length) : wnJ l j E l.length = wns (l.take j) ++ wnX (gA l j) E :: wns (l.drop (j + 1)) := by
 rw [wnJ, List.take_length, List.set_eq_take_append_cons_drop, if_pos (by rw [wns_length]; exact h), wns_take, wns_drop]
theorem mid_get {pre post : List Wn} {i : Nat} {x : AV} (h : pre.length = i) : (wns pre ++ x :: wns post)[i]? = some x := by
 rw [List.getElem?_append_right (by rw [wns_length, h]; omega), wns_length, h]; simp
theorem mid_set {pre post : List Wn} {i : Nat} {x y : AV} (h : pre.length = i) : (wns pre ++ x :: wns post).set i y = wns pre ++ y :: wns post := by
 rw [List.set_append_right _ _ (by rw [wns_length, h]; omega), wns_length, h]; simp
theorem csL_trans {a b c : Cs} (h : csL a b = true) (k : csL b c = true) : csL a c = true := by
 simp only [csL, Bool.or_eq_true, Bool.and_eq_true, decide_eq_true_eq] at *; omega
theorem csL_irr (a : Cs) : csL a a = false := by simp [csL]
theorem chC_lt : ∀ {l : List Cs} {s : Cs}, chB csR s l = true → ∀ x ∈ l, csL s x = true
 | [], _, _, x, hx => by cases hx
 | a :: r, s, h, x, hx => by
  simp only [chB, csR, Bool.and_eq_true] at h
  rcases List.mem_cons.1 hx with rfl | hx
  ·exact h.1.2
  ·exact csL_trans h.1.2 (chC_lt h.2 x hx)
theorem hsB_cons (a : Cs) (r : List Cs) (c : Cs) : hsB (a :: r) c = if csL a c then hsB r c else decide (a = c) := by
 unfold hsB hsI
 rw [List.findIdx_cons]
 cases csL a c <;> rfl
theorem hsB_chC : ∀ {l : List Cs} {s c : Cs}, chB csR s l = true → hsB l c = l.contains c
 | [], _, c, _ => by simp [hsB, hsI]
 | a :: r, s, c, h => by
  simp only [chB, Bool.and_eq_true] at h
  rw [hsB_cons, hsB_chC h.2, List.contains_cons]
  cases hq : csL a c
  ·simp only [Bool.false_eq_true, if_false]
   have : r.contains c = false := by
    rw [Bool.eq_false_iff]; intro hc
    rw [List.contains_iff_mem] at hc
    rw [chC_lt h.2 c hc] at hq; cases hq
   rw [this, Bool.or_false]
   by_cases hac : a = c
   ·subst hac; simp
   ·simp [hac, Ne.symm hac]
  ·simp only [if_true]
   have : (c == a) = false := by
    rw [Bool.eq_false_iff]; intro hc
    have : c = a := by simpa using hc
    rw [this, csL_irr] at hq; cases hq
   rw [this, Bool.false_or]
theorem hsB_contains {l : List Cs} {c : Cs} (h : cauB l = true) : hsB l c = l.contains c := hsB_chC h
theorem ok_cause_Issue (b : Bo) (p t : Int) (c : Cs) (h : BoL b) : PC prog n_cause_Issue [bov b, .int .i64 p, .int .i64 t, csv c] (issV b p t c) := by
 refine PC_of_body b_cause_Issue (by simp) ?_
 simp only [c_cause_Issue, bov, csv]
 try simp (disch := omega) only [go_sem, jA, jB, jC, jD, jE, jF, jG, jH, jI, jJ, ↓reduceIte, reduceCtorEq, jO, jM, jN, jK, jL]
 have hC := ok_cause_ready b p h
 simp only [bov] at hC
 refine call_pc hC (by simp [go_sem, wts_pur, lls_pur, wns_pur]) ?_
 try simp (disch := omega) only [go_sem, jA, jB, jC, jD, jE, jF, jG, jH, jI, jJ, ↓reduceIte, reduceCtorEq, jO, jM, jN, jK, jL]
 refine cond_n (fun g0 => ?_) (fun g0 => ?_)
 ·try simp (disch := omega) only [go_sem, jA, jB, jC, jD, jE, jF, jG, jH, jI, jJ, ↓reduceIte, reduceCtorEq, jO, jM, jN, jK, jL, g0]
  refine iss_bad ?_ g0
  rw [rdyE] at g0 ⊢
  rw [issE]
  split
  ·rfl
  ·rename_i h1
   rw [if_neg h1] at g0
   split
   ·rfl
   ·rename_i h2; rw [if_neg h2] at g0; exact absurd rfl g0
 have hvp : vdB b = true ∧ ¬ (p < 0 ∨ (b.ps.length : Int) ≤ p) := by
  rw [rdyE] at g0
  cases hv : vdB b
  ·rw [if_pos hv] at g0; cases g0
  ·rw [if_neg (by simp [hv])] at g0
   split at g0
   ·cases g0
   ·rename_i h2; exact ⟨rfl, h2⟩
 obtain ⟨hv, gp⟩ := hvp
 have hV := vdB_iff.1 hv
 try simp (disch := omega) only [go_sem, jA, jB, jC, jD, jE, jF, jG, jH, jI, jJ, ↓reduceIte, reduceCtorEq, jO, jM, jN, jK, jL, g0]
 have e0 : ∀ n, (if t < 0 ∨ 16777216 < t then 6 else cauE c) = n → issE b p t c = n := fun n hn => by rw [issE, if_neg (by simp [hv]), if_neg gp, hn]
 refine gd_fd rfl (fun g3 => ?_) (fun g3 => ?_) <;> try simp (disch := omega) only [go_sem, jA, jB, jC, jD, jE, jF, jG, jH, jI, jJ, ↓reduceIte, reduceCtorEq, jO, jM, jN, jK, jL]
 ·exact iss_bad (e0 6 (by rw [if_pos (.inl g3)])) (by omega)
 refine cond_d (fun g4 => ?_) (fun g4 => ?_) <;> try simp (disch := omega) only [go_sem, jA, jB, jC, jD, jE, jF, jG, jH, jI, jJ, ↓reduceIte, reduceCtorEq, jO, jM, jN, jK, jL]
 ·exact iss_bad (e0 6 (by rw [if_pos (.inr g4)])) (by omega)
 have e1 : ∀ n, cauE c = n → issE b p t c = n := fun n hn => e0 n (by rw [if_neg (by omega), hn])
 refine gd_fd rfl (fun g5 => ?_) (fun g5 => ?_) <;> try simp (disch := omega) only [go_sem, jA, jB, jC, jD, jE, jF, jG, jH, jI, jJ, ↓reduceIte, reduceCtorEq, jO, jM, jN, jK, jL]
 ·exact iss_bad (e1 5 (by rw [cauE, show inW c.k 1 4 = false by simp [inW]; omega]; rfl)) (by omega)
 refine cond_d (fun g6 => ?_) (fun g6 => ?_) <;> try simp (disch := omega) only [go_sem, jA, jB, jC, jD, jE, jF, jG, jH, jI, jJ, ↓reduceIte, reduceCtorEq, jO, jM, jN, jK, jL]
 ·exact iss_bad (e1 5 (by rw [cauE, show inW c.k 1 4 = false by simp [inW]; omega]; rfl)) (by omega)
 have hk1 : inW c.k 1 4 = true := by simp [inW]; omega
 refine gd_fd rfl (fun g7 => ?_) (fun g7 => ?_) <;> try simp (disch := omega) only [go_sem, jA, jB, jC, jD, jE, jF, jG, jH, jI, jJ, ↓reduceIte, reduceCtorEq, jO, jM, jN, jK, jL]
 ·exact iss_bad (e1 40 (by rw [cauE, hk1, show inW c.s 0 5 = false by simp [inW]; omega]; rfl)) (by omega)
 refine cond_d (fun g8 => ?_) (fun g8 => ?_) <;> try simp (disch := omega) only [go_sem, jA, jB, jC, jD, jE, jF, jG, jH, jI, jJ, ↓reduceIte, reduceCtorEq, jO, jM, jN, jK, jL]
 ·exact iss_bad (e1 40 (by rw [cauE, hk1, show inW c.s 0 5 = false by simp [inW]; omega]; rfl)) (by omega)
 have hE : issE b p t c = 0 := e1 0 (by rw [cauE, hk1, show inW c.s 0 5 = true by simp [inW]; omega]; rfl)
 have hR : issR b p t c = issB b p t c := by rw [issR, if_pos hE]
 have ha8 := hV.a1
 have hpi := plI_le b.ac p
 obtain ⟨J, hJ⟩ : ∃ J, J = if plB b.ac p then plI b.ac p else b.ac.length := ⟨_, rfl⟩
 have hcp := fun σ => hcK_cause_copied σ b J hV
 simp only [bov] at hcp
 refine (hcp _).mono ?_
 rintro r ⟨ob1, n1, c1⟩ ⟨X, E, rfl, hX, hE0, hE1, hn1, hXn, hEn, ho1⟩
 have u0 := ho1 0 (by simp only; omega)
 have u1 := ho1 1 (by simp only; omega)
 have u2 := ho1 2 (by simp only; omega)
 try simp (disch := omega) only [go_sem, jA, jB, jC, jD, jE, jF, jG, jH, jI, jJ, ↓reduceIte, reduceCtorEq, jO, jM, jN, jK, jL] at u0
 try simp (disch := omega) only [go_sem, jA, jB, jC, jD, jE, jF, jG, jH, jI, jJ, ↓reduceIte, reduceCtorEq, jO, jM, jN, jK, jL] at u1
 try simp (disch := omega) only [go_sem, jA, jB, jC, jD, jE, jF, jG, jH, jI, jJ, ↓reduceIte, reduceCtorEq, jO, jM, jN, jK, jL] at u2
 try simp (disch := omega) only [go_sem, jA, jB, jC, jD, jE, jF, jG, jH, jI, jJ, ↓reduceIte, reduceCtorEq, jO, jM, jN, jK, jL] at hn1
 try simp (disch := omega) only [go_sem, jA, jB, jC, jD, jE, jF, jG, jH, jI, jJ, ↓reduceIte, reduceCtorEq, jO, jM, jN, jK, jL] at hXn
 try simp (disch := omega) only [go_sem, jA, jB, jC, jD, jE, jF, jG, jH, jI, jJ, ↓reduceIte, reduceCtorEq, jO, jM, jN, jK, jL] at hEn
 have hj : plB b.ac p = true → plI b.ac p < b.ac.length := fun h => (plB_get h).1
 have hPB : Pub (⟨upd (upd ob1 n1 (some ⟨c1, 3, 31, false, true, [.agg [.nil, .nil, .nil]]⟩)) n1 (some ⟨c1, 3, 31, false, true, [.agg [.list 4 (wts b.ps), .list 1 (lls b.pa), X]]⟩), n1 + 1, c1 + 1⟩ : St) X (.list 4 (wns b.ac)) := by
  have hag : ∀ i, i < n1 → upd (upd ob1 n1 (some (⟨c1, 3, 31, false, true, [.agg [.nil, .nil, .nil]]⟩ : AObj))) n1 (some ⟨c1, 3, 31, false, true, [.agg [.list 4 (wts b.ps), .list 1 (lls b.pa), X]]⟩) i = ob1 i := fun i hi => by
   rw [upd_ne _ _ _ _ (by omega), upd_ne _ _ _ _ (by omega)]
  refine pub_slx (τ := ⟨_, n1 + 1, c1 + 1⟩) hX (fun i hi _ => hag i hi) (by rw [wnJ, List.length_set, List.take_length]) (fun i x y hx hy => ?_) (wns_ok _)
  rw [wnJ, List.take_length, List.getElem?_set] at hx
  split at hx
  ·rename_i hij
   split at hx
   ·rename_i hlt
    subst hij
    rw [wns_length] at hlt
    have hEE := hE1 hlt
    rw [wns_get] at hy
    obtain ⟨w, hw, rfl⟩ := Option.map_eq_some_iff.1 hy
    have hgw : gA b.ac J = w := by rw [gA, List.getD_eq_getElem?_getD, hw]; rfl
    rw [hgw] at hx hEE
    obtain rfl := Option.some.inj hx
    exact Pub.ag (.cons (Pub.e rfl) (.cons (Pub.e rfl) (.cons (hEE.pub (fun i hi _ => hag i hi) (css_pur _) (css_ok _)) (.cons (Pub.e rfl) .nil))))
   ·cases hx
  ·rw [hx] at hy
   obtain rfl := Option.some.inj hy
   exact Pub.e (wns_pur _ _ (List.mem_of_getElem? hx))
 try simp (disch := omega) only [go_sem, jA, jB, jC, jD, jE, jF, jG, jH, jI, jJ, ↓reduceIte, reduceCtorEq, jO, jM, jN, jK, jL, hX.flat, hX.cells, hX.one]
 have hP := ok_cause_at b p h
 simp only [bov] at hP
 refine call_lent hP (.cons (Pub.ag (.cons (Pub.e rfl) (.cons (Pub.e rfl) (.cons hPB .nil)))) (.cons (.pure rfl) .nil)) rfl ?_
 try simp (disch := omega) only [go_sem, jA, jB, jC, jD, jE, jF, jG, jH, jI, jJ, ↓reduceIte, reduceCtorEq, jO, jM, jN, jK, jL]
 refine cond_cut [61, 62, 63, 64, 65, 66, 67, 68, 69] (by kernel_rfl) (fun e σ => n1 < σ.n ∧ (∀ i, i < 3 → σ.ob i = ob1 i) ∧ ∃ X' pre post w F, SlR 4 tyA σ (wns pre ++ wnX w F :: wns post) X' ∧ Iss b p t c (plI b.ac p) pre post w ∧ cauB w.cs = true ∧ SlR 2 tyC σ (css w.cs) F ∧ σ.ob n1 = some ⟨c1, 3, 31, false, true, [.agg [.list 4 (wts b.ps), .list 1 (lls b.pa), X']]⟩ ∧
  (∀ i, ¬ Oth X' i → 3 ≤ i ∧ i ≠ n1 ∧ Oth F i) ∧ (∀ i, ¬ Oth F i → 3 ≤ i ∧ i ≠ n1)) ?_ ?_
 ·have hX1 := hX.move (τ := ⟨upd (upd ob1 n1 (some ⟨c1, 3, 31, false, true, [.agg [.nil, .nil, .nil]]⟩)) n1 (some ⟨c1, 3, 31, false, true, [.agg [.list 4 (wts b.ps), .list 1 (lls b.pa), X]]⟩), n1 + 1, c1 + 1⟩) (by simp only; omega) fun i hi _ => by
   simp only at hi ⊢
   rw [upd_ne _ _ _ _ (by omega), upd_ne _ _ _ _ (by omega)]
  have ox1 : Oth X n1 := hX.oth (Nat.le_refl _)
  cases hb : plB b.ac p
  ·simp only [hb, Bool.false_eq_true, if_false] at hJ
   subst hJ
   obtain rfl := hE0 (Nat.le_refl _)
   rw [wnJ_le (Nat.le_refl _), List.take_length] at hX1
   try simp (disch := omega) only [go_sem, jA, jB, jC, jD, jE, jF, jG, jH, jI, jJ, ↓reduceIte, reduceCtorEq, jO, jM, jN, jK, jL]
   refine (hcS_slices_Insert__Warning _ X (wns b.ac) (.agg [.int .i64 p, .int .i64 t, .nil, .int .i64 0]) (plI b.ac p) hX1 (by simp [okE, go_sem]) (by rw [wns_length]; omega) (by rw [wns_length]; omega)).mono ?_
   rintro Y ⟨ob3, m3, c3⟩ ⟨hY, hk1, hk2, hk3⟩
   have q1 : n1 + 1 ≤ m3 := hk1
   have q2 : ∀ i, i < n1 + 1 → Oth X i → ob3 i = upd (upd ob1 n1 (some ⟨c1, 3, 31, false, true, [.agg [.nil, .nil, .nil]]⟩)) n1 (some ⟨c1, 3, 31, false, true, [.agg [.list 4 (wts b.ps), .list 1 (lls b.pa), X]]⟩) i := fun i hi ho => hk2 i hi ho
   have w1 := q2 n1 (by omega) ox1
   rw [upd_same] at w1
   try simp (disch := omega) only [go_sem, jA, jB, jC, jD, jE, jF, jG, jH, jI, jJ, ↓reduceIte, reduceCtorEq, jO, jM, jN, jK, jL, w1, hY.flat, hY.cells, hY.one]
   have oY : ∀ i, i < n1 + 1 → Oth X i → Oth Y i := fun i hi ho => hk3 i hi ho
   refine ⟨by omega, fun i hi => ?_, Y, b.ac.take (plI b.ac p), b.ac.drop (plI b.ac p), ⟨p, t, [], 0⟩, .nil, ?_, ?_, rfl, SlR.nil, rfl, fun i hi => ⟨?_, fun e => ?_, Oth.nil i⟩, fun i hi => absurd (Oth.nil i) hi⟩
   ·rw [if_neg (by omega), q2 i (by omega) (Oth.em fun h => by have := (hXn i h).1; omega), upd_ne _ _ _ _ (by omega), upd_ne _ _ _ _ (by omega)]
   ·rw [wns_take, wns_drop] at hY
    refine hY.move (by simp only; omega) fun i hi hh => ?_
    simp only
    rw [upd_ne _ _ _ _ (fun e => hh (by subst e; exact oY _ (by omega) ox1))]
   ·exact ⟨by rw [List.length_take]; omega, by rw [List.length_take, List.length_drop]; omega, by simp [issL, wAt, jAt, hb], by simp⟩
   ·refine Nat.le_of_not_lt fun hh => hi (oY i (by omega) (Oth.em fun h => by have := (hXn i h).1; omega))
   ·subst e; exact hi (oY _ (by omega) ox1)
  ·obtain ⟨h1, h2, h3⟩ := plB_get hb
   simp only [hb, if_true] at hJ
   subst hJ
   have hcl := wnB_bd (hV.wn _ (List.mem_of_getElem? h2))
   have hcl2 := wnB_cs (hV.wn _ (List.mem_of_getElem? h2))
   try simp (disch := omega) only [go_sem, jA, jB, jC, jD, jE, jF, jG, jH, jI, jJ, ↓reduceIte, reduceCtorEq, jO, jM, jN, jK, jL]
   refine ⟨by omega, fun i hi => by rw [if_neg (by omega)], X, b.ac.take (plI b.ac p), b.ac.drop (plI b.ac p + 1), gA b.ac (plI b.ac p), E, ?_, ?_, hcl.2.2.2.2.1, ?_, rfl, fun i hi => ⟨(hXn i hi).1, fun e => by subst e; exact hi ox1, (hXn i hi).2⟩, fun i hi => ⟨hEn i hi, fun e => ?_⟩⟩
   ·rw [← wnJ_split h1]; exact hX1
   ·exact ⟨by rw [List.length_take]; omega, by rw [List.length_take, List.length_drop]; omega, by simp [issL, wAt, jAt, hb], hcl2⟩
   ·refine (hE1 h1).move (by simp only; omega) fun i hi hh => ?_
    simp only at hi ⊢
    rw [upd_ne _ _ _ _ (by omega), upd_ne _ _ _ _ (by omega)]
   ·have := (hE1 h1).lt hi; simp only at this; omega
 ·rintro fe ⟨ob2, n2, c2⟩ ⟨hn2, hlo, X', pre, post, w, F, hX', hI, hcw, hF, hob, hXo, hFo⟩
  have hg := fun {x} => mid_get (post := post) (x := x) hI.i
  have hs := fun {x y} => mid_set (post := post) (x := x) (y := y) hI.i
  rcases hX' with ⟨_, h0⟩ | ⟨id, g, rfl, hid, hoX⟩
  ·simp at h0
  simp only at hid hoX hob hlo hn2
  obtain ⟨hid3, hidn, hFid⟩ := hXo id fun h => h _ _ _ _ rfl
  have z1 : ¬ 1 = id := by omega
  have z2 : ¬ 2 = id := by omega
  have z3 : ¬ n1 = id := fun e => hidn e.symm
  have v1 := (hlo 1 (by omega)).trans u1
  have v2 := (hlo 2 (by omega)).trans u2
  have hil : plI b.ac p < (wns pre ++ wnX w F :: wns post).length := by
   rw [List.length_append, List.length_cons, wns_length, wns_length, hI.i]; omega
  have hs3 : setc 3 (.int .i64 0) (wnX w F) = wnX ⟨w.p, w.t, w.cs, 0⟩ F := rfl
  have hg2 : ∀ (x : Wn) (A : AV), (wnX x A).cells.getD 2 .junk = A := fun _ _ => rfl
  try simp (disch := omega) only [go_sem, jA, jB, jC, jD, jE, jF, jG, jH, jI, jJ, ↓reduceIte, reduceCtorEq, jO, jM, jN, jK, jL, hob, hoX, hg, hs, hs3, hg2, z1, z2, z3, v1, v2]
  have hoX' : SlR 2 tyC ⟨upd ob2 id (some ⟨g, 4, tyA, false, true, wns pre ++ wnX ⟨w.p, w.t, w.cs, 0⟩ F :: wns post⟩), n2, c2⟩ (css w.cs) F := hF.move (Nat.le_refl _) fun i _ hi => by
   simp only
   rw [upd_ne _ _ _ _ fun e => by subst e; exact hi hFid]
  have hc29 := hI.c
  have hCt := ok_slices_Contains__Cause w.cs c (by omega)
  simp only [csv] at hCt
  refine ⟨by omega, by omega, call_lent hCt (.cons (hoX'.pub (fun _ _ _ => rfl) (css_pur _) (css_ok _)) (.cons (.pure rfl) .nil)) rfl ?_⟩
  have hfin : ∀ (σ : St) (G : AV), σ.ob id = some ⟨g, 4, tyA, false, true, wns pre ++ wnX ⟨w.p, w.t, w.cs, 0⟩ G :: wns post⟩ → Pub σ G (.list 2 (css (addC w.cs c))) →
    Pub σ (.tuple [.agg [.list 4 (wts b.ps), .list 1 (lls b.pa), .sl id g 4 0 (wns pre ++ wnX w F :: wns post).length], .int .i64 0]) (issV b p t c) := fun σ G hF hp => by
   rw [issV, hE, hR]
   refine Pub.tu (.cons (Pub.ag (.cons (Pub.e (by simp [go_sem, wts_pur])) (.cons (Pub.e (by simp [go_sem, lls_pur])) (.cons ?_ .nil)))) (.cons (Pub.e rfl) .nil))
   show Pub σ _ (.list 4 (wns (issL b.ac p t c)))
   rw [hI.r]
   exact pub_mid (w := ⟨w.p, w.t, addC w.cs c, 0⟩) hF (by simp [wns_length]; omega) hp
  have hlen : ∀ A B : AV, (wns pre ++ wnX w A :: wns post).length = (wns pre ++ wnX w B :: wns post).length := fun A B => by simp
  try simp (disch := omega) only [go_sem, jA, jB, jC, jD, jE, jF, jG, jH, jI, jJ, ↓reduceIte, reduceCtorEq, jO, jM, jN, jK, jL]
  rw [← hsB_contains hcw]
  cases hb : hsB w.cs c <;> try simp (disch := omega) only [go_sem, jA, jB, jC, jD, jE, jF, jG, jH, jI, jJ, ↓reduceIte, reduceCtorEq, jO, jM, jN, jK, jL]
  ·obtain ⟨ob3, hob3⟩ : ∃ ob3, ob3 = upd ob2 id (some ⟨g, 4, tyA, false, true, wns pre ++ wnX ⟨w.p, w.t, w.cs, 0⟩ F :: wns post⟩) := ⟨_, rfl⟩
   have y1 : ob3 id = some ⟨g, 4, tyA, false, true, wns pre ++ wnX ⟨w.p, w.t, w.cs, 0⟩ F :: wns post⟩ := by rw [hob3, upd_same]
   have y2 : ob3 1 = some ⟨1, 2, 39, false, true, [.agg [.int .i64 c.k, .int .i64 c.s]]⟩ := by rw [hob3, upd_ne _ _ _ _ z1, v1]
   have y3 : ob3 2 = some ⟨2, 3, 31, false, true, [.agg [.nil, .nil, .nil]]⟩ := by rw [hob3, upd_ne _ _ _ _ z2, v2]
   have y4 : ob3 n1 = some ⟨c1, 3, 31, false, true, [.agg [.list 4 (wts b.ps), .list 1 (lls b.pa), .sl id g 4 0 (wns pre ++ wnX w F :: wns post).length]]⟩ := by rw [hob3, upd_ne _ _ _ _ z3, hob]
   rw [← hob3] at hoX' ⊢
   have hkle := hsI_le w.cs c
   refine loop_cut [15, 84, 85, 86, 87, 88, 89, 90, 91, 92, 93, 94, 95, 96, 97, 98, 99, 100, 101, 102, 103] (by kernel_rfl) (fun e σ => e 15 = .int .i64 (hsI w.cs c) ∧ n2 ≤ σ.n ∧ ∀ i, i < n2 → σ.ob i = ob3 i) ?_ ?_
   ·have hoX2 := hoX'
    rcases hoX' with ⟨rfl, h0⟩ | ⟨idf, gf, rfl, hidf, hobf⟩
    ·have hcs0 : w.cs = [] := by simpa [css] using h0
     have hk0 : hsI w.cs c = 0 := by rw [hcs0]; rfl
     refine awp_upG [15, 84, 85, 86, 87, 88, 89, 90, 91, 92, 93, 94, 95, 96, 97, 98, 99, 100, 101, 102, 103] (by kernel_rfl) 0 (fun k e σ => e 15 = .int .i64 k ∧ n2 ≤ σ.n ∧ ∀ i, i < n2 → σ.ob i = ob3 i) ?_ ?_
     ·exact ⟨(by first | rfl | (simp (disch := omega) only [go_sem, jA, jB, jC, jD, jE, jF, jG, jH, jI, jJ, ↓reduceIte, reduceCtorEq, jP, jO, jM, jN]; try rfl)), Nat.le_refl _, fun _ _ => rfl⟩
     rintro k fe ob4 m4 c4 hk hm ⟨hki, hm4, ho4⟩
     obtain rfl : k = 0 := by omega
     simp (maxSteps := 1000000) only [go_sem, jA, jB, jC, jD, jE, jF, jG, jH, jI, jJ, ↓reduceIte, reduceCtorEq, jP] at hki hm4 ho4
     have x1 := (ho4 id hid).trans y1
     try simp (disch := omega) only [go_sem, jA, jB, jC, jD, jE, jF, jG, jH, jI, jJ, ↓reduceIte, reduceCtorEq, jO, jM, jN, jK, jL, hki, x1, hg, hg2]
     exact ⟨by rw [hk0]; rfl, hm4, ho4⟩
    ·simp only at hidf hobf
     refine awp_upG [15, 84, 85, 86, 87, 88, 89, 90, 91, 92, 93, 94, 95, 96, 97, 98, 99, 100, 101, 102, 103] (by kernel_rfl) w.cs.length (fun k e σ => e 15 = .int .i64 k ∧ n2 ≤ σ.n ∧ (∀ i, i < n2 → σ.ob i = ob3 i) ∧ ∀ j, j < k → ∀ y, w.cs[j]? = some y → (!csL y c) = false) ?_ ?_
     ·exact ⟨(by first | rfl | (simp (disch := omega) only [go_sem, jA, jB, jC, jD, jE, jF, jG, jH, jI, jJ, ↓reduceIte, reduceCtorEq, jP, jO, jM, jN]; try rfl)), Nat.le_refl _, fun _ _ => rfl, fun j hj => by omega⟩
     rintro k fe ob4 m4 c4 hk hm ⟨hki, hm4, ho4, hjj⟩
     simp (maxSteps := 1000000) only [go_sem, jA, jB, jC, jD, jE, jF, jG, jH, jI, jJ, ↓reduceIte, reduceCtorEq, jP] at hki hm4 ho4 hm
     have x1 := (ho4 id hid).trans y1
     have x2 := (ho4 1 (by omega)).trans y2
     have x3 := (ho4 idf hidf).trans hobf
     try simp (disch := omega) only [go_sem, jA, jB, jC, jD, jE, jF, jG, jH, jI, jJ, ↓reduceIte, reduceCtorEq, jO, jM, jN, jK, jL, hki, x1, x2, x3, hg, hg2, css_length]
     refine gd_td rfl (fun hlt => ?_) (fun hge => ?_)
     ·have hkl : k < w.cs.length := by omega
      have hk2 : w.cs[k]? = some w.cs[k] := List.getElem?_eq_getElem hkl
      have hat := idx_at hkl hjj
      have hnx := idx_next hk2 hjj
      have hB := ok_cause_before w.cs[k] c
      generalize w.cs[k] = y at *
      simp only [csv] at hB
      try simp (disch := omega) only [go_sem, jA, jB, jC, jD, jE, jF, jG, jH, jI, jJ, ↓reduceIte, reduceCtorEq, jO, jM, jN, jK, jL, hki, x1, x2, x3, hg, hg2, css_length, css_get, hk2, Option.map_some, csv]
      refine ⟨by omega, by omega, call_pc hB (by simp [go_sem]) ?_⟩
      cases hq : csL y c <;> try simp (disch := omega) only [go_sem, jA, jB, jC, jD, jE, jF, jG, jH, jI, jJ, ↓reduceIte, reduceCtorEq, jO, jM, jN, jK, jL, hki]
      ·exact ⟨by rw [hsI, hat (by simp [hq])], hm4, ho4⟩
      ·exact up_nextG m4 hkl (by omega) ⟨(by first | rfl | (simp (disch := omega) only [go_sem, jA, jB, jC, jD, jE, jF, jG, jH, jI, jJ, ↓reduceIte, reduceCtorEq, jP, jO, jM, jN]; try rfl)), by simp only [St.trunc]; omega, fun i hi => by rw [tr_ob (by omega), ho4 i hi], hnx (by simp [hq])⟩
     ·obtain rfl : k = w.cs.length := by omega
      try simp (disch := omega) only [go_sem, jA, jB, jC, jD, jE, jF, jG, jH, jI, jJ, ↓reduceIte, reduceCtorEq, jO, jM, jN, jK, jL, hki]
      exact ⟨by rw [hsI, idx_no hjj], hm4, ho4⟩
   ·rintro fe ⟨ob4, m4, c4⟩ ⟨hki, hm4, ho4⟩
    simp (maxSteps := 1000000) only [go_sem, jA, jB, jC, jD, jE, jF, jG, jH, jI, jJ, ↓reduceIte, reduceCtorEq, jP] at hki hm4 ho4
    have x1 := (ho4 id hid).trans y1
    have x2 := (ho4 1 (by omega)).trans y2
    have x5 := (ho4 2 (by omega)).trans y3
    have x4 := (ho4 n1 (by omega)).trans y4
    have hF4 : SlR 2 tyC ⟨ob4, m4, c4⟩ (css w.cs) F := hoX'.move hm4 fun i hi _ => ho4 i hi
    try simp (disch := omega) only [go_sem, jA, jB, jC, jD, jE, jF, jG, jH, jI, jJ, ↓reduceIte, reduceCtorEq, jO, jM, jN, jK, jL, hki, x1, x2, hg, hg2]
    refine (hcS_slices_Insert__Cause _ F (css w.cs) (.agg [.int .i64 c.k, .int .i64 c.s]) (hsI w.cs c) hF4 (by simp [okE, go_sem]) (by rw [css_length]; omega) (by rw [css_length]; omega)).mono ?_
    rintro G ⟨ob5, m5, c5⟩ ⟨hG, hk1, hk2, hk3⟩
    have q2 : ∀ i, i < m4 → Oth F i → ob5 i = ob4 i := hk2
    have q3 : ∀ i, i < m4 → Oth F i → Oth G i := hk3
    have q1 : m4 ≤ m5 := hk1
    have oF : ∀ i, i < n2 → (i < 3 ∨ i = n1 ∨ i = id) → Oth F i := fun i hi h => by
     rcases h with h | rfl | rfl
     ·exact Oth.em fun hh => by have := (hFo i hh).1; omega
     ·exact Oth.em fun hh => (hFo i hh).2 rfl
     ·exact hFid
    have p1 := (q2 id (by omega) (oF id hid (.inr (.inr rfl)))).trans x1
    have p5 := (q2 2 (by omega) (oF 2 (by omega) (.inl (by omega)))).trans x5
    have p4 := (q2 n1 (by omega) (oF n1 hn2 (.inr (.inl rfl)))).trans x4
    have hs4 : setc 2 G (wnX ⟨w.p, w.t, w.cs, 0⟩ F) = wnX ⟨w.p, w.t, w.cs, 0⟩ G := by simp only [wnX, setc, hG.cells]; rfl
    try simp (disch := omega) only [go_sem, jA, jB, jC, jD, jE, jF, jG, jH, jI, jJ, ↓reduceIte, reduceCtorEq, jO, jM, jN, jK, jL, p1, p5, p4, z2, z3, hg, hs, hs4, hG.flat, hG.cells, hG.one]
    have oG : ∀ i, i = 2 ∨ i = id → Oth G i := fun i h => q3 i (by rcases h with rfl | rfl <;> omega) (oF i (by rcases h with rfl | rfl <;> omega) (by rcases h with rfl | rfl; exact .inl (by omega); exact .inr (.inr rfl)))
    have hL : (css w.cs).take (hsI w.cs c) ++ .agg [.int .i64 c.k, .int .i64 c.s] :: (css w.cs).drop (hsI w.cs c) = css (addC w.cs c) := by
     rw [addC, if_neg (by simp [hb]), css_app, css_take, css_drop]; rfl
    rw [hL] at hG
    refine hfin _ G ?_ ?_
    ·try simp (disch := omega) only [go_sem, jA, jB, jC, jD, jE, jF, jG, jH, jI, jJ, ↓reduceIte, reduceCtorEq, jO, jM, jN, jK, jL, z2]
    refine hG.pub (fun i _ hi => ?_) (css_pur _) (css_ok _)
    simp only
    rw [upd_ne _ _ _ _ fun e => by subst e; exact hi (oG _ (.inl rfl)), upd_ne _ _ _ _ fun e => by subst e; exact hi (oG _ (.inr rfl))]
  ·try simp (disch := omega) only [go_sem, jA, jB, jC, jD, jE, jF, jG, jH, jI, jJ, ↓reduceIte, reduceCtorEq, jO, jM, jN, jK, jL, v2, z2, hob, z3]
   refine hfin _ F (by try simp (disch := omega) only [go_sem, jA, jB, jC, jD, jE, jF, jG, jH, jI, jJ, ↓reduceIte, reduceCtorEq, jO, jM, jN, jK, jL, z2]) ?_
   rw [addC, if_pos hb]
   exact hoX'.pub (fun i _ hi => by simp only; rw [upd_ne _ _ _ _ fun e => by subst e; have := (hFo _ hi).1; omega]) (css_pur _) (css_ok _)
end Go.Proofs.Try
