/- OWN WORK, put together by tools/asm.py, seat.py, mini.py. -/
import Derived.Test.YtpdfbkeholfdaaaLibC
import Derived.RangeFuncBox
import Derived.RangeFuncCalls
import Derived.RangeFuncLeaves
import Derived.Shelf.Abstract
import Derived.WalkKit
import Derived.OwnWalkIn
import Derived.TacticsInMore
import Derived.LoopNIn
import Derived.LoopIn
set_option linter.unusedSimpArgs false
set_option linter.unusedVariables false
set_option maxRecDepth 100000
set_option maxHeartbeats 1000000
namespace Go.Proofs.Try
open Go.Ab Go
open Int renaming reduceEq → jA, reduceLT → jB, reduceLE → jC, reduceToNat → jD
open Go.Ab renaming w_ite_ne → jM, w_ite_lt → jN, wrap_id → jO, w_app_nl → jP
open Nat renaming reduceLT → jE, reduceEqDiff → jF, reduceAdd → jG, reduceLeDiff → jH, reduceSub → jI, reduceMul → jJ, sub_zero → jK, sub_self → jL
theorem ok_slices_Equal__int (a b : List Int) (ha : a.length ≤ 9223372036854775807) : PC prog n_slices_Equal__int [.list 1 (ints a), .list 1 (ints b)] (.bool (decide (a = b))) := by
 refine PC_of_body b_slices_Equal__int (by simp) ?_
 simp only [c_slices_Equal__int, go_sem, jA, jB, jC, jD, jE, jF, jG, jH, jI, jJ, ↓reduceIte, reduceCtorEq, jP, ints_length]
 refine cond_n (fun h => ?_) (fun h => ?_) <;> try simp (disch := omega) only [go_sem, jA, jB, jC, jD, jE, jF, jG, jH, jI, jJ, ↓reduceIte, reduceCtorEq, jO, jM, jN, jK, jL]
 ·exact Pub.of_eq (by congr 1; simp; intro hab; exact h (by rw [hab])) rfl
 have hl : a.length = b.length := by omega
 refine awp_upF [4, 5, 13, 14, 15, 16, 17, 18, 19, 20, 21, 22, 23, 24, 25] (by kernel_rfl) a.length (fun k e _ => e 13 = .int .i64 k ∧ ∀ j, j < k → a[j]? = b[j]?) ?_ ?_
 ·exact ⟨(by first | rfl | (simp (disch := omega) only [go_sem, jA, jB, jC, jD, jE, jF, jG, jH, jI, jJ, ↓reduceIte, reduceCtorEq, jP, jO, jM, jN]; try rfl)), fun j hj => by omega⟩
 ·rintro k fe ob c hk ⟨h13, hj⟩
  simp (maxSteps := 1000000) only [go_sem, jA, jB, jC, jD, jE, jF, jG, jH, jI, jJ, ↓reduceIte, reduceCtorEq, jP] at h13
  try simp (disch := omega) only [go_sem, jA, jB, jC, jD, jE, jF, jG, jH, jI, jJ, ↓reduceIte, reduceCtorEq, jO, jM, jN, jK, jL, h13, ints_length]
  refine cond_d (fun hlt => ?_) (fun hge => ?_)
  ·have hka : k < a.length := by omega
   have hga : a[k]? = some a[k] := List.getElem?_eq_getElem hka
   have hgb : b[k]? = some b[k] := List.getElem?_eq_getElem (by omega)
   try simp (disch := omega) only [go_sem, jA, jB, jC, jD, jE, jF, jG, jH, jI, jJ, ↓reduceIte, reduceCtorEq, jO, jM, jN, jK, jL, h13, ints_length, ints_get, hga, hgb, Option.map_some]
   repeat (refine And.intro (by first | omega | (rw [mxL]; omega) | (simp [maxLen]; done) | (simp [maxLen]; omega)) ?_)
   refine cond_n (fun hne => ?_) (fun heq => ?_)
   ·try simp (disch := omega) only [go_sem, jA, jB, jC, jD, jE, jF, jG, jH, jI, jJ, ↓reduceIte, reduceCtorEq, jO, jM, jN, jK, jL]
    exact Pub.of_eq (by congr 1; simp; intro hab; subst hab; exact hne rfl) rfl
   ·try simp (disch := omega) only [go_sem, jA, jB, jC, jD, jE, jF, jG, jH, jI, jJ, ↓reduceIte, reduceCtorEq, jO, jM, jN, jK, jL, h13]
    refine up_next hka ⟨(by first | rfl | (simp (disch := omega) only [go_sem, jA, jB, jC, jD, jE, jF, jG, jH, jI, jJ, ↓reduceIte, reduceCtorEq, jP, jO, jM, jN]; try rfl)), fun j hj' => ?_⟩
    by_cases e : j = k
    ·have he : a[k] = b[k] := heq
     subst e; rw [hga, hgb, he]
    ·exact hj j (by omega)
  ·try simp (disch := omega) only [go_sem, jA, jB, jC, jD, jE, jF, jG, jH, jI, jJ, ↓reduceIte, reduceCtorEq, jO, jM, jN, jK, jL]
   exact Pub.of_eq (by congr 1; simp; exact eq_of_get hl fun j hj' => hj j (by omega)) rfl
structure DkL (K : Dk) : Prop where
 s : DkS K
 sg : ∀ d ∈ K.ds, d.sg.length ≤ 9223372036854775807
section
open Go.RowKit Go.Shelf
attribute [local go_sem] Oper.semAt_some
def bwL (l : List Dv) : List (List AV) := (List.range l.length).map fun (i : Nat) => [AV.int .i64 ((l.length : Int) - 1 - (i : Int)), dvv (gD l (l.length - 1 - i))]
theorem bwL_length (l : List Dv) : (bwL l).length = l.length := by simp [bwL]
set_option maxHeartbeats 4000000 in
theorem bw_in (n : Nat) (hn : n ≤ 4611686018427387904) (N : Nat) (hN : N = n) (q y : Nat) (p : Addr) (a : Addr) (aa : Option Addr) (haa : 0 < n → aa = some a) (ha : a.spot = none) (cap : Nat) (f : Nat → Nat → Value) (us : Nat → Array Value) (hus : ∀ i, i < n → us i = #[.int .i64 ((n : Int) - 1 - i), .agg #[f (n-1-i) 0, f (n-1-i) 1, f (n-1-i) 2, f (n-1-i) 3, f (n-1-i) 4, f (n-1-i) 5, f (n-1-i) 6]])
  (C : World → Prop) (hC : ∀ W, C W → W.cell? p = some (.slice aa n cap) ∧ ∀ i j, i < n → j < 7 → W.cell? (a.add (i * 7 + j)) = some (f i j))
  (J Jx : List {i : Nat // i < N} → World → Prop)
  (hY : ∀ pre x W, J pre W → C W → pre.length < N → YieldAt Fence.wide (q - 1) prog y (us x.1) W fun e W' =>
   (e = .returned (.bool true) ∧ J (pre ++ [x]) W' ∧ C W') ∨ (e = .returned (.bool false) ∧ Jx (pre ++ [x]) W'))
  (W : World) (hCW : C W) (h0 : J [] W) :
  CallsIn Fence.wide q prog 60 #[.func (.yield y) #[] #[], .pointer (some p)] W fun e W' => (∃ v, e = .returned v) ∧
   ((∃ ys, ys.map (·.1) = List.range n ∧ J ys W') ∨ (∃ pre, pre.map (·.1) <+: List.range n ∧ Jx pre W')) := by
 have hF : Fence.wide.fn 60 := trivial
 have hd : Fence.wide.depth.isSome = true → 1 ≤ q := fun h => by simp [Fence.wide] at h
 refine callsIn_of_wp func60 rfl hF ?_ rfl
 simp only [ntmps60, List.size_toArray, List.length_cons, List.length_nil, Nat.reduceAdd, Nat.reduceSub, Array.replicate_succ, Array.replicate_zero, List.push_toArray, List.append_toArray, List.nil_append, List.cons_append]
 obtain ⟨hp, hcells⟩ := hC W hCW
 gi_wp2
 gi_loopw [3] (fun i wr => ∃ k : Nat, k ≤ n ∧ i = .int .i64 ((n : Int) - 1 - k) ∧ (∃ pre : List {i : Nat // i < N}, pre.map (·.1) = List.range k ∧ J pre wr) ∧ C wr) (fun i _ => (intOf i + 1).toNat)
 case atStart => exact ⟨0, Nat.zero_le _, by congr 1; omega, ⟨[], by simp, h0⟩, hCW⟩
 case round =>
  obtain ⟨k, hk, rfl, ⟨pre, hpre, hJs⟩, hCk⟩ := hrel
  obtain ⟨hpk, hck⟩ := hC _ hCk
  by_cases hlt : k < n
  ·have hlen : pre.length < N := by have := congrArg List.length hpre; simp at this; omega
   obtain ⟨fn, tmps, assign, body, hy, hR⟩ := hY pre ⟨k, by omega⟩ wr hJs hCk hlen
   have h7 : ∀ j, j < 7 → wr.cell? { block := (a.add ((n - 1 - k) * 7)).block, off := (a.add ((n - 1 - k) * 7)).off + j } = some (f (n - 1 - k) j) := fun j hj => by
    rw [← hck _ _ (by omega) hj]
    obtain ⟨b, o, s⟩ := a
    simp only at ha
    subst ha
    rw [Addr.add_lit, Addr.add_lit, Nat.add_assoc]
   have c0 : wr.cell? (a.add ((n - 1 - k) * 7)) = some (f (n - 1 - k) 0) := hck _ 0 (by omega) (by omega)
   have c1 := h7 1 (by omega)
   have c2 := h7 2 (by omega)
   have c3 := h7 3 (by omega)
   have c4 := h7 4 (by omega)
   have c5 := h7 5 (by omega)
   have c6 := h7 6 (by omega)
   obtain rfl := haa (by omega)
   rw [show us (⟨k, by omega⟩ : {i : Nat // i < N}).1 = _ from hus k hlt] at hy
   gi_wp2
   refine ⟨hd, ?_⟩
   refine hR.mono ?_
   rintro e W3 (⟨rfl, hJ3, hC3⟩ | ⟨rfl, hJx3⟩)
   ·gi_wp2
    go_roundw
    case rel => exact ⟨k + 1, by omega, by congr 1; omega, ⟨_, by rw [List.map_append, hpre, List.range_succ]; rfl, hJ3⟩, hC3⟩
    case measure => simp [intOf]; omega
   ·gi_wp2
    refine bodyPost_ret (results_none rfl _ _ _) rfl ?_
    refine ⟨⟨_, rfl⟩, .inr ⟨_, ?_, hJx3⟩⟩
    rw [List.map_append, hpre, show List.map (fun x : {i : Nat // i < N} => x.1) [⟨k, by omega⟩] = [k] from rfl, ← List.range_succ]
    exact ⟨(List.range (n - (k + 1))).map (k + 1 + ·), by rw [← List.range_add]; congr 1; omega⟩
  ·obtain rfl : k = n := by omega
   gi_wp2
   go_end0
   exact ⟨⟨_, rfl⟩, .inl ⟨_, hpre, hJs⟩⟩
theorem cell_heap {A B : World} {b o : Nat} (h : B.heap[b]? = A.heap[b]?) : B.cell? ⟨b, o, none⟩ = A.cell? ⟨b, o, none⟩ := by simp only [World.cell?, h]
theorem itg_Backward (l : List Dv) (hl : l.length ≤ 4611686018427387904) : ItG prog n_slices_Backward_1__Deviation [.rptr 1 [.list 7 (dvs l)] 0 0] (bwL l) := by
 refine ⟨fun args w => run_callFunc (okF_of_body b_slices_Backward_1__Deviation) args w, fun k S w cs hlt hcs => ?_⟩
 obtain ⟨hsz, hvp⟩ := hcs
 obtain ⟨v, rfl⟩ : ∃ v, cs = #[v] := by
  obtain ⟨cs⟩ := cs
  match cs, hsz with
  | [v], _ => exact ⟨v, rfl⟩
 have hv0 := hvp 0 _ v rfl rfl
 clear hvp hsz
 obtain ⟨bp, op, hSp, sl, hcell, hsl⟩ : ∃ bp op, S bp ∧ ∃ sl, v = .pointer (some ⟨bp, op, none⟩) ∧ w.cell? ⟨bp, op, none⟩ = some sl ∧ VP S w (.list 7 (dvs l)) sl := by
  cases hv0 with
  | rptr f hS hc hw hv => exact ⟨_, _, hS.1, f 0 0, rfl, hw 0 0 (by simp) (by omega), hv 0 _ 0 _ rfl rfl⟩
 obtain ⟨rfl, hcell, hsl⟩ : v = .pointer (some ⟨bp, op, none⟩) ∧ w.cell? ⟨bp, op, none⟩ = some sl ∧ VP S w (.list 7 (dvs l)) sl := ⟨hcell, hsl.1, hsl.2⟩
 obtain ⟨aa, cap, ba, oa, f, rfl, haa, hSa, hel, hvp⟩ : ∃ aa cap ba oa, ∃ f : Nat → Nat → Value, sl = .slice aa l.length cap ∧ (0 < l.length → aa = some ⟨ba, oa, none⟩) ∧ (0 < l.length → S ba) ∧ (∀ i j, i < l.length → j < 7 → w.cell? ⟨ba, oa + (i * 7 + j), none⟩ = some (f i j)) ∧
   ∀ (i : Nat) (d : Dv) (j : Nat) (y : AV), l[i]? = some d → (dvv d).cells[j]? = some y → VP S w y (f i j) := by
  generalize hD : dvs l = D at hsl
  cases hsl with
  | listNil _ a c =>
   have : l.length = 0 := by rw [← dvs_length, hD]; rfl
   refine ⟨a, c, 0, 0, fun _ _ => undef, by rw [this], fun h => by omega, fun h => by omega, fun i j hi => by omega, fun i d j y hd => ?_⟩
   have := (List.getElem?_eq_some_iff.1 hd).1
   omega
  | list f hl2 hcap hS hc hw hv =>
   have hln : D.length = l.length := by rw [← hD, dvs_length]
   refine ⟨_, _, _, _, f, by rw [← hln], fun _ => rfl, fun _ => hS.1, fun i j hi hj => ?_, fun i d j y hd hy => ?_⟩
   ·rw [← Nat.add_assoc]; exact hw i j (by omega) hj
   ·exact hv i _ j y (by rw [← hD, dvs_get, hd]; rfl) hy
 have hbl := bwL_length l
 refine ⟨fun i => #[.int .i64 ((l.length : Int) - 1 - (i : Int)), .agg #[f (l.length-1-i) 0, f (l.length-1-i) 1, f (l.length-1-i) 2, f (l.length-1-i) 3, f (l.length-1-i) 4, f (l.length-1-i) 5, f (l.length-1-i) 6]], fun i v hv => ?_, fun y J Jx W hW _ _ hY h0 => ?_⟩
 ·simp only [bwL, List.getElem?_map] at hv
  have hi : i < l.length := by
   have := (List.getElem?_eq_some_iff.1 (show (bwL l)[i]? = some v by simp only [bwL, List.getElem?_map]; exact hv)).1
   omega
  rw [List.getElem?_range hi] at hv
  simp only [Option.map_some, Option.some.injEq] at hv
  subst hv
  have hg := gD_get (l := l) (i := l.length - 1 - i) (by omega)
  generalize gD l (l.length - 1 - i) = d at *
  have hd := fun j y h => hvp _ d j y hg h
  refine ⟨rfl, fun j y v hy hv => ?_⟩
  match j, hy, hv with
  | 0, hy, hv => simp at hy hv; subst hy hv; exact .int _ _
  | 1, hy, hv =>
   simp at hy hv; subst hy hv
   refine .agg rfl fun j y v hy hv => ?_
   match j, hy, hv with
   | 0, hy, hv => simp at hv; subst hv; exact hd 0 y hy
   | 1, hy, hv => simp at hv; subst hv; exact hd 1 y hy
   | 2, hy, hv => simp at hv; subst hv; exact hd 2 y hy
   | 3, hy, hv => simp at hv; subst hv; exact hd 3 y hy
   | 4, hy, hv => simp at hv; subst hv; exact hd 4 y hy
   | 5, hy, hv => simp at hv; subst hv; exact hd 5 y hy
   | 6, hy, hv => simp at hv; subst hv; exact hd 6 y hy
   | j + 7, hy, hv => simp at hv
  | j + 2, hy, hv => simp at hv
 ·have up : ∀ {b o : Nat} {v : Value}, w.cell? ⟨b, o, none⟩ = some v → W.cell? ⟨b, o, none⟩ = some v := fun {b o v} hv => (hW.cell (p := ⟨b, o, none⟩) (isC.of_cell hv).lt).trans hv
  have hfin := bw_in l.length hl (bwL l).length hbl k y ⟨bp, op, none⟩ ⟨ba, oa, none⟩ aa haa rfl cap f _ (fun i _ => rfl)
   (fun V => V.cell? ⟨bp, op, none⟩ = some (.slice aa l.length cap) ∧ ∀ i j, i < l.length → j < 7 → V.cell? ⟨ba, oa + (i * 7 + j), none⟩ = some (f i j))
   (fun V h => ⟨h.1, fun i j hi hj => by rw [Addr.add_lit]; exact h.2 i j hi hj⟩) J Jx (fun pre x W1 hJ hC hlen => ?_) W ⟨up hcell, fun i j hi hj => up (hel i j hi hj)⟩ h0
  ·refine hfin.mono ?_
   rintro e W' ⟨h1, h2⟩
   rw [← hbl] at h2
   exact ⟨h1, h2⟩
  ·obtain ⟨fn, tmps, asn, body, y1, y2⟩ := hY pre x W1 hJ hlen
   refine ⟨fn, tmps, asn, body, y1, y2.mono ?_⟩
   rintro e W' (⟨h1, h2, h3⟩ | h)
   ·refine .inl ⟨h1, h2, ?_, fun i j hi hj => ?_⟩
    ·rw [cell_heap (h3 bp hSp)]; exact hC.1
    ·rw [cell_heap (h3 ba (hSa (by omega)))]; exact hC.2 i j hi hj
   ·exact .inr h
end
theorem ok_slices_Backward__Deviation (l : List Dv) : PC prog n_slices_Backward__Deviation [.list 7 (dvs l)] (.func n_slices_Backward_1__Deviation [.rptr 1 [.list 7 (dvs l)] 0 0]) := by
 refine PC_of_body b_slices_Backward__Deviation (by simp) ?_
 simp only [c_slices_Backward__Deviation, go_sem, jA, jB, jC, jD, jE, jF, jG, jH, jI, jJ, ↓reduceIte, reduceCtorEq, jP]
 try simp (disch := omega) only [go_sem, jA, jB, jC, jD, jE, jF, jG, jH, jI, jJ, ↓reduceIte, reduceCtorEq, jO, jM, jN, jK, jL]
 refine Pub.func rfl fun i x y hx hy => ?_
 match i, hx, hy with
 | 0, hx, hy =>
  simp at hx hy
  subst hx hy
  refine Pub.ptr (o := ⟨0, 1, 29, false, true, [.list 7 (dvs l)]⟩) (by try simp (disch := omega) only [go_sem, jA, jB, jC, jD, jE, jF, jG, jH, jI, jJ, ↓reduceIte, reduceCtorEq, jO, jM, jN, jK, jL]) rfl rfl rfl (by simp) (fun i x y hx hy => ?_) (fun x hx => ?_)
  ·rw [hx] at hy; obtain rfl := Option.some.inj hy
   obtain rfl : x = .list 7 (dvs l) := by have := List.mem_of_getElem? hx; simpa using this
   exact .pure (by simp [go_sem, dvs_pur])
  ·obtain rfl : x = .list 7 (dvs l) := by simpa using hx
   exact ⟨rfl, rfl⟩
theorem NoMap.same (σ : St) : NoMap σ σ := fun k o ho _ => ⟨k, o, ho, rfl⟩
theorem NoMap.put1 {σ : St} {ob : Nat → Option AObj} {n c n' c' a : Nat} {x : AObj} (h : NoMap σ ⟨ob, n, c⟩) (hx : x.ty ≠ mapTy) : NoMap σ ⟨upd ob a (some x), n', c'⟩ := fun i o h1 ht => by
 simp only [upd] at h1
 split at h1
 ·cases h1; exact absurd ht hx
 ·exact h i o h1 ht
theorem NoMap.put2 {σ : St} {ob : Nat → Option AObj} {n c n' c' a b : Nat} {x y : AObj} (h : NoMap σ ⟨ob, n, c⟩) (hx : x.ty ≠ mapTy) (hy : y.ty ≠ mapTy) : NoMap σ ⟨upd (upd ob a (some x)) b (some y), n', c'⟩ :=
 NoMap.put1 (n := n') (c := c') (NoMap.put1 h hx) hy
theorem NoMap.tr {σ τ : St} (h : NoMap σ τ) (nt : Nat) : NoMap σ (τ.trunc nt) := fun k o ho ht => by
 simp only [St.trunc] at ho
 split at ho
 ·exact h k o ho ht
 ·cases ho
theorem rangeG_i {It : Nat → List AV → List (List AV) → Prop} {f : Nat} {caps : List AV} {A : ((Nat → AV) → St → Prop) → (Nat → AV) → St → Prop} {B : awpK → (Nat → AV) → St → Prop} {ts : List Nat} {Q : awpK} {e : Nat → AV} {σ : St}
  (vs : List (List AV)) (hit : It f caps vs) (hp : (AV.func f caps).pur = true) (hl : ∀ v ∈ vs, v.length = ts.length) (Ip : List Nat → Prop) (Is : St → Prop) (Ix : EX → List Nat → St → Prop) (h0 : Ip []) (h1 : Is σ)
  (hb : ∀ i v σ1, vs[i]? = some v → Is σ1 → NoMap σ σ1 → A (RangeGA σ Ip (fun τ => Is τ ∧ NoMap σ τ) vs.length fun pre => B (RangeGQ σ.n Ip (fun τ => Is τ ∧ NoMap σ τ) (fun x p τ => Ix x p τ ∧ NoMap σ τ) (pre ++ [i]))) (updl e ts v) σ1)
  (he : Ip (List.range vs.length) → ∀ σ1, Is σ1 → Q .nrm e σ1) (hx : ∀ x pre σ1, x ≠ .nrm → pre <+: List.range vs.length → Ix x pre σ1 → Q x e σ1) : rangeGK It (.func f caps) A B ts Q e σ :=
 ⟨hp, vs, hit, hl, Ip, fun τ => Is τ ∧ NoMap σ τ, fun x p τ => Ix x p τ ∧ NoMap σ τ, h0, ⟨h1, NoMap.same σ⟩, fun _ h => h.2, fun _ _ _ _ h => h.2, fun i v σ1 hv h => hb i v σ1 hv h.1 h.2, fun h σ1 hs => he h σ1 hs.1, fun x pre σ1 h2 h3 h4 => hx x pre σ1 h2 h3 h4.1⟩
def hitD (site time : Int) (d : Dv) : Bool := decide (d.site = site) && decide (d.sg.length = 2) && !d.wd && decide (d.fr ≤ time) && decide (time ≤ d.to)
def infS (K : Dk) (site time : Int) : Dv × Bool := if chkD K = false then (dv0, false) else match K.ds.reverse.find? (hitD site time) with
 | some d => (d, true)
 | none => (dv0, false)
theorem pub_dv0 {σ : St} : Pub σ (.agg [.int .i64 0, .int .i64 0, .int .i64 0, .int .i64 0, .int .i64 0, .nil, .bool false]) (dvv dv0) :=
 Pub.ag (.cons (Pub.e rfl) (.cons (Pub.e rfl) (.cons (Pub.e rfl) (.cons (Pub.e rfl) (.cons (Pub.e rfl) (.cons (.nl 1) (.cons (Pub.e rfl) .nil)))))))
theorem rev_get {l : List Dv} {i : Nat} (hi : i < l.length) : l.reverse[i]? = some (gD l (l.length - 1 - i)) := by
 rw [List.getElem?_reverse hi, gD_get (by omega)]
def Mis (l : List Dv) (site time : Int) (i : Nat) : Prop := ∀ j, j < i → hitD site time (gD l (l.length - 1 - j)) = false
theorem inf_none {K : Dk} {site time : Int} (hc : chkD K = true) (h : Mis K.ds site time K.ds.length) : infS K site time = (dv0, false) := by
 rw [infS, if_neg (by simp [hc])]
 have : K.ds.reverse.find? (hitD site time) = none := by
  rw [List.find?_eq_none]
  intro d hd
  obtain ⟨i, hi⟩ := List.getElem?_of_mem hd
  have hil : i < K.ds.length := by have := (List.getElem?_eq_some_iff.1 hi).1; simpa using this
  rw [rev_get hil] at hi
  obtain rfl := Option.some.inj hi
  rw [h i hil]; simp
 rw [this]
theorem inf_some {K : Dk} {site time : Int} {i : Nat} (hc : chkD K = true) (hi : i < K.ds.length) (h : Mis K.ds site time i) (hh : hitD site time (gD K.ds (K.ds.length - 1 - i)) = true) : infS K site time = (gD K.ds (K.ds.length - 1 - i), true) := by
 rw [infS, if_neg (by simp [hc])]
 have hg := rev_get hi
 obtain ⟨hil, hge⟩ := List.getElem?_eq_some_iff.1 hg
 have : K.ds.reverse.find? (hitD site time) = some K.ds.reverse[i] := by
  refine find_hit hil ?_ (by rw [hge]; exact hh)
  rw [List.find?_eq_none]
  intro d hd
  obtain ⟨j, hj⟩ := List.getElem?_of_mem hd
  rw [List.getElem?_take] at hj
  split at hj
  ·rename_i hji
   rw [rev_get (by omega)] at hj
   obtain rfl := Option.some.inj hj
   rw [h j hji]; simp
  ·cases hj
 rw [this, hge]
theorem ok_deviation_copied (d : Dv) (hd : d.sg.length ≤ 1000000) : PC prog n_deviation_copied [dvv d] (dvv d) :=
 PC_of_HC b_deviation_copied ((hc_deviation_copied St.empty d hd).mono fun r τ ⟨E, h1, h2, _, _⟩ => by
  rw [h1]
  exact Pub.ag (.cons (Pub.e rfl) (.cons (Pub.e rfl) (.cons (Pub.e rfl) (.cons (Pub.e rfl) (.cons (Pub.e rfl) (.cons (h2.pub (fun _ _ _ => rfl) (ints_pur _) (ints_ok _)) (.cons (Pub.e rfl) .nil))))))))
theorem ok_deviation_InForce (K : Dk) (hB : DkS K) (site time : Int) : PC prog n_deviation_InForce [dkv K, .int .i64 site, .int .i64 time] (.tuple [dvv (infS K site time).1, .bool (infS K site time).2]) := by
 have hKp := dkv_pur K
 refine PC_of_body b_deviation_InForce (by simp) ?_
 simp only [c_deviation_InForce]
 try simp (disch := omega) only [go_sem, jA, jB, jC, jD, jE, jF, jG, jH, jI, jJ, ↓reduceIte, reduceCtorEq, jO, jM, jN, jK, jL, dkv_flat, dkv_len, dkv_tk, dkv_dt]
 refine call_pc (ok_deviation_valid K hB) (by simp [hKp]) ?_
 cases hc : chkD K
 ·try simp (disch := omega) only [go_sem, jA, jB, jC, jD, jE, jF, jG, jH, jI, jJ, ↓reduceIte, reduceCtorEq, jO, jM, jN, jK, jL]
  rw [infS, if_pos hc]
  exact Pub.tu (.cons pub_dv0 (.cons (Pub.e rfl) .nil))
 have hnx := chkD_nx hc
 try simp (disch := omega) only [go_sem, jA, jB, jC, jD, jE, jF, jG, jH, jI, jJ, ↓reduceIte, reduceCtorEq, jO, jM, jN, jK, jL, dkv_2]
 refine call_pc (ok_slices_Backward__Deviation K.ds) (by simp [go_sem, dvs_pur]) ?_
 try simp (disch := omega) only [go_sem, jA, jB, jC, jD, jE, jF, jG, jH, jI, jJ, ↓reduceIte, reduceCtorEq, jO, jM, jN, jK, jL]
 have hbl := bwL_length K.ds
 refine rangeG_i (bwL K.ds) (itg_Backward K.ds (by omega)) (by simp [go_sem, dvs_pur]) (fun v hv => by simp only [bwL, List.mem_map] at hv; obtain ⟨i, _, rfl⟩ := hv; rfl)
  (fun pre => ∀ j ∈ pre, hitD site time (gD K.ds (K.ds.length - 1 - j)) = false)
  (fun σ => 5 ≤ σ.n ∧ σ.ob 1 = some ⟨1, 1, 3, false, true, [.int .i64 site]⟩ ∧ σ.ob 2 = some ⟨2, 1, 3, false, true, [.int .i64 time]⟩ ∧ σ.ob 3 = some ⟨3, 7, 43, false, true, [.agg [.int .i64 0, .int .i64 0, .int .i64 0, .int .i64 0, .int .i64 0, .nil, .bool false]]⟩ ∧ σ.ob 4 = some ⟨4, 1, 4, false, true, [.bool false]⟩)
  (fun x pre σ => x = .ret ∧ ∃ pre' i, pre = pre' ++ [i] ∧ (∀ j ∈ pre', hitD site time (gD K.ds (K.ds.length - 1 - j)) = false) ∧ hitD site time (gD K.ds (K.ds.length - 1 - i)) = true ∧
   σ.ob 3 = some ⟨3, 7, 43, false, true, [dvv (gD K.ds (K.ds.length - 1 - i))]⟩ ∧ σ.ob 4 = some ⟨4, 1, 4, false, true, [.bool true]⟩)
  (fun j hj => by simp at hj) ⟨Nat.le_refl _, by try simp (disch := omega) only [go_sem, jA, jB, jC, jD, jE, jF, jG, jH, jI, jJ, ↓reduceIte, reduceCtorEq, jO, jM, jN, jK, jL], by try simp (disch := omega) only [go_sem, jA, jB, jC, jD, jE, jF, jG, jH, jI, jJ, ↓reduceIte, reduceCtorEq, jO, jM, jN, jK, jL], by try simp (disch := omega) only [go_sem, jA, jB, jC, jD, jE, jF, jG, jH, jI, jJ, ↓reduceIte, reduceCtorEq, jO, jM, jN, jK, jL], by try simp (disch := omega) only [go_sem, jA, jB, jC, jD, jE, jF, jG, jH, jI, jJ, ↓reduceIte, reduceCtorEq, jO, jM, jN, jK, jL]⟩ ?_ ?_ ?_
 ·rintro i v ⟨ob, m, c⟩ hv ⟨hm, v1, v2, v3, v4⟩ hN
  simp only at hm v1 v2 v3 v4
  have hil : i < K.ds.length := by have := (List.getElem?_eq_some_iff.1 hv).1; omega
  simp only [bwL, List.getElem?_map, List.getElem?_range hil, Option.map_some, Option.some.injEq] at hv
  subst hv
  have hC := ok_deviation_copied (gD K.ds (K.ds.length - 1 - i)) (by have := chkD_sg hc (List.mem_of_getElem? (gD_get (l := K.ds) (i := K.ds.length - 1 - i) (by omega))); omega)
  have hcv : (∀ d : Dv, hitD site time d = (decide (d.site = site) && decide (d.sg.length = 2) && !d.wd && decide (d.fr ≤ time) && decide (time ≤ d.to))) := fun _ => rfl
  generalize hd : gD K.ds (K.ds.length - 1 - i) = d at *
  simp only [updl, dvv, dvX] at hC ⊢
  try simp (disch := omega) only [go_sem, jA, jB, jC, jD, jE, jF, jG, jH, jI, jJ, ↓reduceIte, reduceCtorEq, jO, jM, jN, jK, jL]
  refine ⟨⟨m, by simp only; omega, ⟨hm, ?_, ?_, ?_, ?_⟩, NoMap.tr (NoMap.put2 hN (show tyDv ≠ mapTy by decide) (show tyDv ≠ mapTy by decide)) _⟩, NoMap.put2 hN (show tyDv ≠ mapTy by decide) (show tyDv ≠ mapTy by decide), fun pre hpre hlen => ?_⟩
  ·simp only [St.trunc]; rw [if_pos (by omega), upd_ne _ _ _ _ (by omega), upd_ne _ _ _ _ (by omega)]; exact v1
  ·simp only [St.trunc]; rw [if_pos (by omega), upd_ne _ _ _ _ (by omega), upd_ne _ _ _ _ (by omega)]; exact v2
  ·simp only [St.trunc]; rw [if_pos (by omega), upd_ne _ _ _ _ (by omega), upd_ne _ _ _ _ (by omega)]; exact v3
  ·simp only [St.trunc]; rw [if_pos (by omega), upd_ne _ _ _ _ (by omega), upd_ne _ _ _ _ (by omega)]; exact v4
  have z1 : ¬ 1 = m := by omega
  have z2 : ¬ 2 = m := by omega
  have z3 : ¬ 3 = m := by omega
  have z4 : ¬ 4 = m := by omega
  have y3 : ¬ m = 3 := by omega
  try simp (disch := omega) only [go_sem, jA, jB, jC, jD, jE, jF, jG, jH, jI, jJ, ↓reduceIte, reduceCtorEq, jO, jM, jN, jK, jL, z1, z2, v1, v2]
  refine gd_td rfl (fun g1 => ?_) (fun g1 => ?_) <;> try simp (disch := omega) only [go_sem, jA, jB, jC, jD, jE, jF, jG, jH, jI, jJ, ↓reduceIte, reduceCtorEq, jO, jM, jN, jK, jL, z1, z2, v1, v2, ints_length]
  case refine_2 =>
   refine ⟨fun j hj => ?_, m, by omega, ⟨hm, ?_, ?_, ?_, ?_⟩, NoMap.tr (NoMap.put2 hN (show tyDv ≠ mapTy by decide) (show tyDv ≠ mapTy by decide)) _⟩
   ·rcases List.mem_append.1 hj with h1 | h1
    ·exact hpre j h1
    ·simp at h1; subst h1; rw [hd, hcv]; simp [g1]
   all_goals (simp only [St.trunc]; rw [if_pos (by omega), upd_ne _ _ _ _ (by omega), upd_ne _ _ _ _ (by omega)]; first | exact v1 | exact v2 | exact v3 | exact v4)
  refine gd_td rfl (fun g2 => ?_) (fun g2 => ?_) <;> try simp (disch := omega) only [go_sem, jA, jB, jC, jD, jE, jF, jG, jH, jI, jJ, ↓reduceIte, reduceCtorEq, jO, jM, jN, jK, jL, z1, z2, v1, v2]
  case refine_2 =>
   have g2' : ¬ d.sg.length = 2 := by omega
   refine ⟨fun j hj => ?_, m, by omega, ⟨hm, ?_, ?_, ?_, ?_⟩, NoMap.tr (NoMap.put2 hN (show tyDv ≠ mapTy by decide) (show tyDv ≠ mapTy by decide)) _⟩
   ·rcases List.mem_append.1 hj with h1 | h1
    ·exact hpre j h1
    ·simp at h1; subst h1; rw [hd, hcv]; simp [g2']
   all_goals (simp only [St.trunc]; rw [if_pos (by omega), upd_ne _ _ _ _ (by omega), upd_ne _ _ _ _ (by omega)]; first | exact v1 | exact v2 | exact v3 | exact v4)
  cases hw : d.wd
  case true =>
   try simp (disch := omega) only [go_sem, jA, jB, jC, jD, jE, jF, jG, jH, jI, jJ, ↓reduceIte, reduceCtorEq, jO, jM, jN, jK, jL, z1, z2, v1, v2]
   refine ⟨fun j hj => ?_, m, by omega, ⟨hm, ?_, ?_, ?_, ?_⟩, NoMap.tr (NoMap.put2 hN (show tyDv ≠ mapTy by decide) (show tyDv ≠ mapTy by decide)) _⟩
   ·rcases List.mem_append.1 hj with h1 | h1
    ·exact hpre j h1
    ·simp at h1; subst h1; rw [hd, hcv]; simp [hw]
   all_goals (simp only [St.trunc]; rw [if_pos (by omega), upd_ne _ _ _ _ (by omega), upd_ne _ _ _ _ (by omega)]; first | exact v1 | exact v2 | exact v3 | exact v4)
  try simp (disch := omega) only [go_sem, jA, jB, jC, jD, jE, jF, jG, jH, jI, jJ, ↓reduceIte, reduceCtorEq, jO, jM, jN, jK, jL, z1, z2, v1, v2]
  refine gd_td rfl (fun g3 => ?_) (fun g3 => ?_) <;> try simp (disch := omega) only [go_sem, jA, jB, jC, jD, jE, jF, jG, jH, jI, jJ, ↓reduceIte, reduceCtorEq, jO, jM, jN, jK, jL, z1, z2, v1, v2]
  case refine_2 =>
   refine ⟨fun j hj => ?_, m, by omega, ⟨hm, ?_, ?_, ?_, ?_⟩, NoMap.tr (NoMap.put2 hN (show tyDv ≠ mapTy by decide) (show tyDv ≠ mapTy by decide)) _⟩
   ·rcases List.mem_append.1 hj with h1 | h1
    ·exact hpre j h1
    ·simp at h1; subst h1; rw [hd, hcv]; simp [g3]
   all_goals (simp only [St.trunc]; rw [if_pos (by omega), upd_ne _ _ _ _ (by omega), upd_ne _ _ _ _ (by omega)]; first | exact v1 | exact v2 | exact v3 | exact v4)
  refine cond_d (fun g4 => ?_) (fun g4 => ?_) <;> try simp (disch := omega) only [go_sem, jA, jB, jC, jD, jE, jF, jG, jH, jI, jJ, ↓reduceIte, reduceCtorEq, jO, jM, jN, jK, jL, z1, z2, v1, v2]
  case refine_2 =>
   refine ⟨fun j hj => ?_, m, by omega, ⟨hm, ?_, ?_, ?_, ?_⟩, NoMap.tr (NoMap.put2 hN (show tyDv ≠ mapTy by decide) (show tyDv ≠ mapTy by decide)) _⟩
   ·rcases List.mem_append.1 hj with h1 | h1
    ·exact hpre j h1
    ·simp at h1; subst h1; rw [hd, hcv]; simp [g4]
   all_goals (simp only [St.trunc]; rw [if_pos (by omega), upd_ne _ _ _ _ (by omega), upd_ne _ _ _ _ (by omega)]; first | exact v1 | exact v2 | exact v3 | exact v4)
  rw [hw] at hC
  refine call_pc hC (by simp [go_sem, ints_pur]) ?_
  try simp (disch := omega) only [go_sem, jA, jB, jC, jD, jE, jF, jG, jH, jI, jJ, ↓reduceIte, reduceCtorEq, jO, jM, jN, jK, jL, z3, z4, v3, v4]
  refine ⟨m + 1, by omega, ⟨rfl, pre, i, rfl, hpre, ?_, ?_, ?_⟩, ?_⟩
  ·rw [hd, hcv]; simp [g1, hw, g3, g4]; omega
  ·rw [hd]; simp only [St.trunc, dvv, dvX, hw]; rw [if_pos (by omega)]; simp [upd]
  ·simp only [St.trunc]; rw [if_pos (by omega)]; simp [upd]
  ·refine NoMap.tr (NoMap.put2 (n := m) (c := c) (NoMap.put2 (n' := m) (c' := c) hN (show tyDv ≠ mapTy by decide) (show tyDv ≠ mapTy by decide)) (show tyDv ≠ mapTy by decide) (show 4 ≠ mapTy by decide)) _
 ·intro hall σ1 ⟨hn, v1, v2, v3, v4⟩
  obtain ⟨ob, m, c⟩ := σ1
  simp only at hn v1 v2 v3 v4
  rw [inf_none hc fun j hj => hall j (by rw [hbl]; simpa using hj)]
  try simp (disch := omega) only [go_sem, jA, jB, jC, jD, jE, jF, jG, jH, jI, jJ, ↓reduceIte, reduceCtorEq, jO, jM, jN, jK, jL, v3, v4]
  exact Pub.tu (.cons pub_dv0 (.cons (Pub.e rfl) .nil))
 ·rintro x pre ⟨ob, m, c⟩ hxn hpre ⟨rfl, pre', i, rfl, hmis, hh, v3, v4⟩
  simp only at v3 v4
  rw [hbl] at hpre
  have hi : (pre' ++ [i])[pre'.length]? = some i := by simp
  have hpr := hpre
  obtain ⟨s, hs⟩ := hpre
  have hr : (List.range K.ds.length)[pre'.length]? = some i := by rw [← hs, List.getElem?_append_left (by simp)]; exact hi
  have hlt := (List.getElem?_eq_some_iff.1 hr).1
  rw [List.getElem?_range (by simpa using hlt)] at hr
  obtain rfl := Option.some.inj hr
  simp only [List.length_range] at hlt
  have hmis2 : Mis K.ds site time pre'.length := fun j hj => by
   have h1 : (List.range K.ds.length)[j]? = pre'[j]? := by rw [← hs, List.append_assoc, List.getElem?_append_left hj]
   rw [List.getElem?_range (by omega)] at h1
   exact hmis j (List.mem_of_getElem? h1.symm)
  rw [inf_some hc hlt hmis2 hh]
  try simp (disch := omega) only [go_sem, jA, jB, jC, jD, jE, jF, jG, jH, jI, jJ, ↓reduceIte, reduceCtorEq, jO, jM, jN, jK, jL, v3, v4]
  exact Pub.tu (.cons (Pub.e (dvv_pur _)) (.cons (Pub.e rfl) .nil))
end Go.Proofs.Try
