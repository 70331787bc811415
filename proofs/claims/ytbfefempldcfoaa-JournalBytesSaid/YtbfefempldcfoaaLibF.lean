/- OWN WORK, put together by tools/asm.py, seat.py, mini.py. -/
import Derived.Test.YtbfefempldcfoaaLibE
set_option linter.unusedSimpArgs false
set_option linter.unusedVariables false
set_option maxRecDepth 100000
set_option maxHeartbeats 1000000
namespace Go.Proofs.Try
open Go.Ab Go
open Int renaming reduceEq → jA, reduceLT → jB, reduceLE → jC, reduceToNat → jD
open Go.Ab renaming w_ite_ne → jM, w_ite_lt → jN, wrap_id → jO, w_app_nl → jP
open Nat renaming reduceLT → jE, reduceEqDiff → jF, reduceAdd → jG, reduceLeDiff → jH, reduceSub → jI, reduceMul → jJ, sub_zero → jK, sub_self → jL
inductive MP (σ : St) : AV → AV → Prop
 | same (a : AV) : MP σ a a
 | pub {a b : AV} (h : Pub σ a b) : MP σ a b
 | agg {cs ds : List AV} (h5 : cs.length = ds.length) (h6 : ∀ (i : Nat) (x y : AV), cs[i]? = some x → ds[i]? = some y → MP σ x y) : MP σ (.agg cs) (.agg ds)
 | tuple {cs ds : List AV} (h5 : cs.length = ds.length) (h6 : ∀ (i : Nat) (x y : AV), cs[i]? = some x → ds[i]? = some y → MP σ x y) : MP σ (.tuple cs) (.tuple ds)
inductive MPs (σ : St) : List AV → List AV → Prop
 | nil : MPs σ [] []
 | cons {a b : AV} {l r : List AV} (h : MP σ a b) (k : MPs σ l r) : MPs σ (a :: l) (b :: r)
theorem MPs.get {σ : St} {l r : List AV} (h : MPs σ l r) : l.length = r.length ∧ ∀ (i : Nat) (x y : AV), l[i]? = some x → r[i]? = some y → MP σ x y := by
 induction h with
 | nil => exact ⟨rfl, fun i x y h => by simp at h⟩
 | cons h k ih =>
  refine ⟨by simp [ih.1], fun i x y hx hy => ?_⟩
  cases i with
  | zero => simp at hx hy; subst hx; subst hy; exact h
  | succ i => exact ih.2 i x y (by simpa using hx) (by simpa using hy)
theorem MPs.app {σ : St} {l r l' r' : List AV} (h : MPs σ l r) (k : MPs σ l' r') : MPs σ (l ++ l') (r ++ r') := by
 induction h with
 | nil => exact k
 | cons h _ ih => exact .cons h ih
theorem MPs.refl {σ : St} : ∀ l : List AV, MPs σ l l
 | [] => .nil
 | _ :: l => .cons (.same _) (MPs.refl l)
theorem MP.ag {σ : St} {l r : List AV} (h : MPs σ l r) : MP σ (.agg l) (.agg r) := .agg h.get.1 h.get.2
theorem MP.tu {σ : St} {l r : List AV} (h : MPs σ l r) : MP σ (.tuple l) (.tuple r) := .tuple h.get.1 h.get.2
def MO (σ : St) (o o2 : AObj) : Prop := o2 = o ∨ (o2 = { o with l := o2.l } ∧ okL o.es o2.l ∧ o2.l.length = o.l.length ∧ MPs σ (flatL o.l) (flatL o2.l))
theorem MO.g {σ : St} {o o2 : AObj} (h : MO σ o o2) : o2.g = o.g := by
 rcases h with rfl | ⟨h, _⟩
 ·rfl
 ·rw [h]
theorem MO.ro {σ : St} {o o2 : AObj} (h : MO σ o o2) : o2.ro = o.ro := by
 rcases h with rfl | ⟨h, _⟩
 ·rfl
 ·rw [h]
structure Grp (σ : St) (lo : Nat) (X : AV) (Es : List AV) : Prop where
 low : ∀ i, ¬ Oth X i → lo ≤ i ∧ i < σ.n
 loE : ∀ E ∈ Es, ∀ i, ¬ Oth E i → lo ≤ i ∧ i < σ.n
 sep : ∀ E ∈ Es, ∀ i, ¬ Oth E i → Oth X i
 dj : ∀ (a b : Nat) (E F : AV), a ≠ b → Es[a]? = some E → Es[b]? = some F → ∀ i, ¬ Oth E i → Oth F i
theorem Grp.nil (σ : St) (lo : Nat) : Grp σ lo .nil [] := ⟨fun i h => absurd (Oth.nil i) h, fun _ h => (by cases h), fun _ h => (by cases h), fun a b E F _ h => (by simp at h)⟩
theorem snoc_get {α : Type} {l : List α} {x y : α} {a : Nat} (h : (l ++ [x])[a]? = some y) : (a < l.length ∧ l[a]? = some y) ∨ (a = l.length ∧ y = x) := by
 by_cases ha : a < l.length
 ·rw [List.getElem?_append_left ha] at h; exact .inl ⟨ha, h⟩
 ·rw [List.getElem?_append_right (by omega)] at h
  obtain ⟨h1, h2⟩ := List.getElem?_eq_some_iff.1 h
  simp at h1
  have h3 : a = l.length := by omega
  subst h3
  simp at h2
  exact .inr ⟨rfl, h2.symm⟩
theorem Grp.snoc {σ τ ρ : St} {lo : Nat} {X X' E : AV} {Es : List AV} (h : Grp σ lo X Es) (hlo : lo ≤ σ.n) (hn : σ.n ≤ τ.n) (hE : ∀ i, ¬ Oth E i → σ.n ≤ i ∧ i < τ.n) (k : Kp τ X ρ X') (hX : ∀ i, ρ.n ≤ i → Oth X' i) : Grp ρ lo X' (Es ++ [E]) := by
 obtain ⟨k1, k2, k3⟩ := k
 have hEs : ∀ F ∈ Es, ∀ i, ¬ Oth F i → i < σ.n := fun F hF i hi => (h.loE F hF i hi).2
 refine ⟨fun i hi => ?_, fun F hF i hi => ?_, fun F hF i hi => ?_, fun a b F G hab hF hG i hi => ?_⟩
 ·refine ⟨?_, Nat.lt_of_not_le fun hh => hi (hX i hh)⟩
  by_cases h1 : i < τ.n
  ·exact (h.low i fun h2 => hi (k3 i h1 h2)).1
  ·omega
 ·rcases List.mem_append.1 hF with hF | hF
  ·have := h.loE F hF i hi; omega
  ·obtain rfl : F = E := by simpa using hF
   have := hE i hi; omega
 ·rcases List.mem_append.1 hF with hF | hF
  ·exact k3 i (by have := hEs F hF i hi; omega) (h.sep F hF i hi)
  ·obtain rfl : F = E := by simpa using hF
   have := hE i hi
   exact k3 i this.2 (Oth.em fun h2 => by have := (h.low i h2).2; omega)
 ·rcases snoc_get hF with ⟨_, hF2⟩ | ⟨ha, rfl⟩ <;> rcases snoc_get hG with ⟨_, hG2⟩ | ⟨hb, rfl⟩
  ·exact h.dj a b F G hab hF2 hG2 i hi
  ·exact Oth.em fun h2 => by have := hE i h2; have := hEs F (List.mem_of_getElem? hF2) i hi; omega
  ·exact Oth.em fun h2 => by have := hE i hi; have := hEs G (List.mem_of_getElem? hG2) i h2; omega
  ·omega
theorem Grp.up {σ τ : St} {lo : Nat} {X : AV} {Es : List AV} (h : Grp σ lo X Es) (hn : σ.n ≤ τ.n) : Grp τ lo X Es :=
 ⟨fun i hi => ⟨(h.low i hi).1, Nat.lt_of_lt_of_le (h.low i hi).2 hn⟩, fun E hE i hi => ⟨(h.loE E hE i hi).1, Nat.lt_of_lt_of_le (h.loE E hE i hi).2 hn⟩, h.sep, h.dj⟩
def IC (es : Nat) (ty : TypeId) (σ : St) (Es : List AV) (Ls : List (List AV)) : Prop := Es.length = Ls.length ∧ ∀ (i : Nat) (E : AV) (L : List AV), Es[i]? = some E → Ls[i]? = some L → SlR es ty σ L E
theorem IC.nil (es : Nat) (ty : TypeId) (σ : St) : IC es ty σ [] [] := ⟨rfl, fun i E L h => by simp at h⟩
theorem IC.move {es : Nat} {ty : TypeId} {σ τ : St} {Es : List AV} {Ls : List (List AV)} (h : IC es ty σ Es Ls) (hn : σ.n ≤ τ.n) (ho : ∀ E ∈ Es, ∀ i, ¬ Oth E i → i < σ.n → τ.ob i = σ.ob i) : IC es ty τ Es Ls :=
 ⟨h.1, fun i E L hE hL => (h.2 i E L hE hL).move hn fun j hj hh => ho E (List.mem_of_getElem? hE) j hh hj⟩
theorem IC.snoc {es : Nat} {ty : TypeId} {σ : St} {Es : List AV} {Ls : List (List AV)} {E : AV} {L : List AV} (h : IC es ty σ Es Ls) (k : SlR es ty σ L E) : IC es ty σ (Es ++ [E]) (Ls ++ [L]) := by
 refine ⟨by simp [h.1], fun i F M hF hM => ?_⟩
 rcases snoc_get hF with ⟨h1, hF⟩ | ⟨h1, rfl⟩ <;> rcases snoc_get hM with ⟨h2, hM⟩ | ⟨h2, rfl⟩
 ·exact h.2 i F M hF hM
 ·have := h.1; omega
 ·have := h.1; omega
 ·exact k
theorem SlR.up {es : Nat} {ty : TypeId} {σ τ : St} {L : List AV} {X : AV} (h : SlR es ty σ L X) (hn : σ.n ≤ τ.n) (ho : ∀ i, i < σ.n → ¬ Oth X i → τ.ob i = σ.ob i) : SlR es ty τ L X := h.move hn ho
theorem SlR.lt {es : Nat} {ty : TypeId} {σ : St} {L : List AV} {X : AV} (h : SlR es ty σ L X) {i : Nat} (hi : ¬ Oth X i) : i < σ.n := Nat.lt_of_not_le fun hh => hi (h.oth hh)
theorem pub_slx {es : Nat} {ty : TypeId} {σ τ : St} {L M : List AV} {X : AV} (h : SlR es ty σ L X) (ho : ∀ i, i < σ.n → ¬ Oth X i → τ.ob i = σ.ob i) (hl : L.length = M.length)
  (hp : ∀ (i : Nat) (x y : AV), L[i]? = some x → M[i]? = some y → Pub τ x y) (hk : ∀ x ∈ M, okE es x) : Pub τ X (.list es M) := by
 rcases h with ⟨rfl, rfl⟩ | ⟨id, g, rfl, h2, h3⟩
 ·obtain rfl : M = [] := List.eq_nil_of_length_eq_zero (by simpa using hl.symm)
  exact .nl es
 ·exact .sl ((ho id h2 fun h => h _ _ _ _ rfl).trans h3) rfl rfl (by simp) (by simpa using hl) (by simpa using hp) hk
theorem IC.pub {es : Nat} {ty : TypeId} {σ τ : St} {Es : List AV} {Ls : List (List AV)} (h : IC es ty σ Es Ls) (ho : ∀ E ∈ Es, ∀ i, i < σ.n → ¬ Oth E i → τ.ob i = σ.ob i)
  (hp : ∀ L ∈ Ls, ∀ x ∈ L, x.pur = true) (hk : ∀ L ∈ Ls, ∀ x ∈ L, okE es x) : ∀ (i : Nat) (E : AV) (L : List AV), Es[i]? = some E → Ls[i]? = some L → Pub τ E (.list es L) := fun i E L hE hL =>
 (h.2 i E L hE hL).pub (ho E (List.mem_of_getElem? hE)) (hp L (List.mem_of_getElem? hL)) (hk L (List.mem_of_getElem? hL))
structure Pn where
 id : Int
 role : Int
 key : Int
 deriving DecidableEq, Inhabited
structure Dv where
 id : Int
 site : Int
 fr : Int
 to : Int
 rel : Int
 sg : List Int
 wd : Bool
 deriving DecidableEq, Inhabited
structure Dk where
 ps : List Pn
 nx : Int
 ds : List Dv
 deriving DecidableEq
def pnv (p : Pn) : AV := .agg [.int .i64 p.id, .int .i64 p.role, .int .i64 p.key]
def pns (l : List Pn) : List AV := l.map pnv
def dvX (d : Dv) (E : AV) : AV := .agg [.int .i64 d.id, .int .i64 d.site, .int .i64 d.fr, .int .i64 d.to, .int .i64 d.rel, E, .bool d.wd]
def dvv (d : Dv) : AV := dvX d (.list 1 (ints d.sg))
def dvs (l : List Dv) : List AV := l.map dvv
def dkv (K : Dk) : AV := .agg [.list 3 (pns K.ps), .int .i64 K.nx, .list 7 (dvs K.ds)]
def pn0 : Pn := ⟨0, 0, 0⟩
def dk0 : Dk := ⟨[], 0, []⟩
theorem pns_length (l : List Pn) : (pns l).length = l.length := by simp [pns]
theorem pns_get (l : List Pn) (i : Nat) : (pns l)[i]? = (l[i]?).map pnv := by simp [pns]
theorem pns_pur (l : List Pn) : ∀ x ∈ pns l, x.pur = true := by simp [pns, pnv, go_sem]
theorem pns_ok (l : List Pn) : ∀ x ∈ pns l, okE 3 x := by simp [pns, pnv, okE, go_sem]
theorem dvs_length (l : List Dv) : (dvs l).length = l.length := by simp [dvs]
theorem dvs_get (l : List Dv) (i : Nat) : (dvs l)[i]? = (l[i]?).map dvv := by simp [dvs]
theorem dvv_pur (d : Dv) : (dvv d).pur = true := by simp [dvv, dvX, go_sem, ints_pur]
theorem dvs_pur (l : List Dv) : ∀ x ∈ dvs l, x.pur = true := by simp [dvs, dvv_pur]
theorem dvs_ok (l : List Dv) : ∀ x ∈ dvs l, okE 7 x := by simp [dvs, dvv, dvX, okE, go_sem]
theorem dkv_pur (K : Dk) : (dkv K).pur = true := by simp [dkv, go_sem, pns_pur, dvs_pur]
def dv0 : Dv := ⟨0, 0, 0, 0, 0, [], false⟩
theorem dv0_fold : AV.agg [.int .i64 0, .int .i64 0, .int .i64 0, .int .i64 0, .int .i64 0, .nil, .bool false] = dvX dv0 .nil := rfl
theorem dvv_put (d e : Dv) : setc 0 (dvv d) (dvX e .nil) = dvv d := rfl
theorem dvv_flat (d : Dv) : (dvv d).flat = true := rfl
theorem dvv_len (d : Dv) : (dvv d).cells.length = 7 := rfl
theorem dvv_tk (d : Dv) : AV.agg ((dvv d).cells.take 7) = dvv d := rfl
theorem dvv_dt (d : Dv) : AV.agg (((dvv d).cells.drop 0).take 7) = dvv d := rfl
theorem dvv_ct (d : Dv) : (dvv d).cells.take 7 = (dvv d).cells := rfl
theorem dvv_ca (d : Dv) : AV.agg (dvv d).cells = dvv d := rfl
theorem dvv_one (d : Dv) : (dvv d).cells.all AV.one = true := rfl
theorem dvv_0 (d : Dv) : (dvv d).cells.getD 0 .junk = .int .i64 d.id := rfl
theorem dvv_3 (d : Dv) : (dvv d).cells.getD 3 .junk = .int .i64 d.to := rfl
theorem dvv_6 (d : Dv) : (dvv d).cells.getD 6 .junk = .bool d.wd := rfl
def inD (x a b : Int) : Bool := decide (a ≤ x) && decide (x ≤ b)
def codeL : Int → List Int → Int
 | c, [] => c
 | c, n :: l => codeL ((31 * c + ((n.tmod 2147483647 + 2147483647).tmod 2147483647)).tmod 2147483647) l
def codeI (key kind : Int) (d : Dv) : List Int := [key, kind, d.id, d.site, d.fr, d.to, d.rel]
def codeS (key kind : Int) (d : Dv) : Int := codeL 7 (codeI key kind d)
def prsS (K : Dk) (id : Int) : Pn × Bool := match K.ps.find? fun p => decide (p.id = id) with
 | some p => (p, true)
 | none => (pn0, false)
def rolesS (K : Dk) (l : List Int) : List Int := l.map fun s => (prsS K s).1.role
def rgtS (K : Dk) (d : Dv) : Bool :=
 inD d.site 0 5 && !decide (d.fr < 0) && !decide (d.to < d.fr) && !decide (16777216 < d.to) && inD d.rel 0 1073741824 && decide (d.sg.length ≤ 2) && d.sg.all (fun s => (prsS K s).2) &&
 (decide (d.sg.length < 2) || !decide ((rolesS K d.sg).getD 0 0 = (rolesS K d.sg).getD 1 0))
def gP (l : List Pn) (i : Nat) : Pn := l.getD i default
def gD (l : List Dv) (i : Nat) : Dv := l.getD i default
theorem gP_get {l : List Pn} {i : Nat} (h : i < l.length) : l[i]? = some (gP l i) := by simp [gP, List.getD_eq_getElem?_getD, h]
theorem gD_get {l : List Dv} {i : Nat} (h : i < l.length) : l[i]? = some (gD l i) := by simp [gD, List.getD_eq_getElem?_getD, h]
def okP (K : Dk) (i : Nat) : Bool := inD (gP K.ps i).id 1 1073741824 && !(decide (0 < i) && decide ((gP K.ps i).id ≤ (gP K.ps (i - 1)).id)) && inD (gP K.ps i).role 1 9 && inD (gP K.ps i).key 1 1073741824
def okD (K : Dk) (i : Nat) : Bool := inD (gD K.ds i).id 1 (K.nx - 1) && !(decide (0 < i) && decide ((gD K.ds i).id ≤ (gD K.ds (i - 1)).id)) && rgtS K (gD K.ds i)
def chkD (K : Dk) : Bool := decide (K.ps.length ≤ 12) && inD K.nx 1 1073741824 && decide (K.ds.length ≤ 64) && (List.range K.ps.length).all (okP K) && (List.range K.ds.length).all (okD K)
def chkDS (K : Dk) : Int := if chkD K then 0 else 50
def reqS (K : Dk) (site fr to rel : Int) : Dk × Int × Int :=
 if chkD K = false then (dk0, 0, 50) else if inD site 0 5 = false then (dk0, 0, 40) else if fr < 0 ∨ to < fr ∨ 16777216 < to then (dk0, 0, 6) else if inD rel 0 1073741824 = false then (dk0, 0, 1) else
 if K.ds.length = 64 ∨ K.nx = 1073741824 then (dk0, 0, 10) else (⟨K.ps, K.nx + 1, K.ds ++ [⟨K.nx, site, fr, to, rel, [], false⟩]⟩, K.nx, 0)
def askG (K : Dk) (id who code now kind : Int) : List Dv → Nat → Int × Pn × Int
 | [], _ => (0, pn0, 9)
 | d :: l, i => if d.id ≠ id then askG K id who code now kind l (i + 1) else if d.wd = true ∨ d.to < now then (0, pn0, 44) else if (prsS K who).2 = false then (0, pn0, 11) else
  if code ≠ codeS (prsS K who).1.key kind d then (0, pn0, 43) else ((i : Int), (prsS K who).1, 0)
def askS (K : Dk) (id who code now kind : Int) : Int × Pn × Int := if chkD K = false then (0, pn0, 50) else askG K id who code now kind K.ds 0
def sgnE (K : Dk) (who role : Int) : List Int → Int
 | [] => 0
 | s :: l => if s = who then 46 else if (prsS K s).1.role = role then 5 else sgnE K who role l
def sgnS (K : Dk) (id who code now : Int) : Dk × Int :=
 let a := askS K id who code now 1
 if a.2.2 ≠ 0 then (dk0, a.2.2) else
 let d := gD K.ds a.1.toNat
 if d.sg.length = 2 then (dk0, 46) else if sgnE K who a.2.1.role d.sg ≠ 0 then (dk0, sgnE K who a.2.1.role d.sg) else (⟨K.ps, K.nx, K.ds.set a.1.toNat { d with sg := d.sg ++ [who] }⟩, 0)
def wdrS (K : Dk) (id who code now : Int) : Dk × Int :=
 let a := askS K id who code now 2
 if a.2.2 ≠ 0 then (dk0, a.2.2) else (⟨K.ps, K.nx, K.ds.set a.1.toNat { gD K.ds a.1.toNat with wd := true }⟩, 0)
theorem ok_ref26_in (x a b : Int) : PC prog n_ref26_in [.int .i64 x, .int .i64 a, .int .i64 b] (.bool (inD x a b)) := by
 refine PC_of_body b_ref26_in (by simp) ?_
 simp only [c_ref26_in, inD]
 try simp (disch := omega) only [go_sem, jA, jB, jC, jD, jE, jF, jG, jH, jI, jJ, ↓reduceIte, reduceCtorEq, jO, jM, jN, jK, jL]
 refine gd_td rfl (fun h => ?_) (fun h => ?_) <;> try simp (disch := omega) only [go_sem, jA, jB, jC, jD, jE, jF, jG, jH, jI, jJ, ↓reduceIte, reduceCtorEq, jO, jM, jN, jK, jL]
 ·exact Pub.of_eq (by simp [h]) rfl
 ·exact Pub.of_eq (by simp [h]) rfl
theorem find_snoc {α : Type} {l : List α} {q : α → Bool} {i : Nat} (hi : i < l.length) (h : (l.take i).find? q = none) : (l.take (i + 1)).find? q = if q l[i] = true then some l[i] else none := by
 rw [List.take_add_one, List.getElem?_eq_getElem hi, List.find?_append, h]
 simp [List.find?_cons]
 split <;> simp_all
theorem find_hit {α : Type} {l : List α} {q : α → Bool} {i : Nat} (hi : i < l.length) (h : (l.take i).find? q = none) (hq : q l[i] = true) : l.find? q = some l[i] := by
 have h1 := find_snoc hi h
 rw [if_pos hq] at h1
 have h2 : ∀ x, x = some l[i] → (l.take (i + 1)).find? q = x → l.find? q = x := fun x hx h3 => by
  rw [← List.take_append_drop (i + 1) l, List.find?_append, h3, hx]; rfl
 exact h2 _ rfl h1
theorem ok_ref26_person (K : Dk) (id : Int) (hl : K.ps.length ≤ 4611686018427387904) : PC prog n_ref26_person [dkv K, .int .i64 id] (.tuple [pnv (prsS K id).1, .bool (prsS K id).2]) := by
 refine PC_of_body b_ref26_person (by simp) ?_
 simp only [c_ref26_person, dkv]
 try simp (disch := omega) only [go_sem, jA, jB, jC, jD, jE, jF, jG, jH, jI, jJ, ↓reduceIte, reduceCtorEq, jO, jM, jN, jK, jL, pns_length]
 refine awp_upG [5, 7, 11, 12, 13, 14, 15, 16, 17, 18, 19, 20] (by kernel_rfl) K.ps.length (fun i e σ => e 11 = .int .i64 i ∧ (K.ps.take i).find? (fun p => decide (p.id = id)) = none ∧ σ.ob 1 = some ⟨1, 3, 132, false, true, [.agg [.int .i64 0, .int .i64 0, .int .i64 0]]⟩) ?_ ?_
 ·exact ⟨(by first | rfl | (simp (disch := omega) only [go_sem, jA, jB, jC, jD, jE, jF, jG, jH, jI, jJ, ↓reduceIte, reduceCtorEq, jP, jO, jM, jN]; try rfl)), rfl, by try simp (disch := omega) only [go_sem, jA, jB, jC, jD, jE, jF, jG, jH, jI, jJ, ↓reduceIte, reduceCtorEq, jO, jM, jN, jK, jL]⟩
 rintro i fe ob m c hi hm ⟨h11, hf, h1⟩
 simp (maxSteps := 1000000) only [go_sem, jA, jB, jC, jD, jE, jF, jG, jH, jI, jJ, ↓reduceIte, reduceCtorEq, jP] at h11 h1 hm
 try simp (disch := omega) only [go_sem, jA, jB, jC, jD, jE, jF, jG, jH, jI, jJ, ↓reduceIte, reduceCtorEq, jO, jM, jN, jK, jL, h11]
 refine cond_d (fun hlt => ?_) (fun hge => ?_)
 ·have hil : i < K.ps.length := by omega
  have hg : K.ps[i]? = some K.ps[i] := List.getElem?_eq_getElem hil
  have hs := find_snoc hil hf
  have hh := find_hit hil hf
  have hsn : (K.ps.take (i + 1)).find? (fun p => decide (p.id = id)) = if decide (K.ps[i].id = id) = true then some K.ps[i] else none := hs
  generalize K.ps[i] = p at *
  have z1 : ¬ 1 = m := by omega
  try simp (disch := omega) only [go_sem, jA, jB, jC, jD, jE, jF, jG, jH, jI, jJ, ↓reduceIte, reduceCtorEq, jO, jM, jN, jK, jL, h11, pns_get, hg, Option.map_some, pns_length, pnv]
  refine ⟨by omega, by omega, ?_⟩
  refine cond_d (fun hq => ?_) (fun hq => ?_)
  ·try simp (disch := omega) only [go_sem, jA, jB, jC, jD, jE, jF, jG, jH, jI, jJ, ↓reduceIte, reduceCtorEq, jO, jM, jN, jK, jL, h1, z1]
   have : prsS K id = (p, true) := by rw [prsS, hh (by simpa using hq)]
   rw [this]
   exact Pub.pure rfl
  ·try simp (disch := omega) only [go_sem, jA, jB, jC, jD, jE, jF, jG, jH, jI, jJ, ↓reduceIte, reduceCtorEq, jO, jM, jN, jK, jL, h11]
   refine up_nextG (m + 1) hil (by omega) ⟨(by first | rfl | (simp (disch := omega) only [go_sem, jA, jB, jC, jD, jE, jF, jG, jH, jI, jJ, ↓reduceIte, reduceCtorEq, jP, jO, jM, jN]; try rfl)), ?_, ?_⟩
   ·rw [hsn, if_neg (by simpa using hq)]
   ·rw [tr_ob (by omega), upd_ne _ _ _ _ (by omega), upd_ne _ _ _ _ (by omega)]; exact h1
 obtain rfl : i = K.ps.length := by omega
 rw [List.take_length] at hf
 try simp (disch := omega) only [go_sem, jA, jB, jC, jD, jE, jF, jG, jH, jI, jJ, ↓reduceIte, reduceCtorEq, jO, jM, jN, jK, jL, h1]
 have : prsS K id = (pn0, false) := by rw [prsS, hf]
 rw [this]
 exact Pub.pure rfl
theorem tmod_bdP (x : Int) : -2147483647 < x.tmod 2147483647 ∧ x.tmod 2147483647 < 2147483647 := by
 have h1 := Int.tmod_lt_of_pos x (b := 2147483647) (by omega)
 have h2 := Int.tmod_lt_of_pos (-x) (b := 2147483647) (by omega)
 rw [Int.neg_tmod] at h2
 omega
theorem tmod_bd0 (x : Int) (h : 0 ≤ x) : 0 ≤ x.tmod 2147483647 ∧ x.tmod 2147483647 < 2147483647 := ⟨Int.tmod_nonneg _ h, (tmod_bdP x).2⟩
theorem ok_ref26_Code (key kind : Int) (d : Dv) : PC prog n_ref26_Code [.int .i64 key, .int .i64 kind, dvv d] (.int .i64 (codeS key kind d)) := by
 refine PC_of_body b_ref26_Code (by simp) ?_
 simp only [c_ref26_Code, dvv, dvX]
 try simp (disch := omega) only [go_sem, jA, jB, jC, jD, jE, jF, jG, jH, jI, jJ, ↓reduceIte, reduceCtorEq, jO, jM, jN, jK, jL]
 have hL : [AV.int .i64 key, .int .i64 kind, .int .i64 d.id, .int .i64 d.site, .int .i64 d.fr, .int .i64 d.to, .int .i64 d.rel] = ints (codeI key kind d) := rfl
 have h7 : (codeI key kind d).length = 7 := rfl
 rw [hL]
 generalize hLL : codeI key kind d = L at *
 refine awp_upF [7, 9, 24, 25, 26, 27, 28, 29, 30, 31, 32, 33, 34, 35, 36] (by kernel_rfl) 7 (fun i e _ => e 24 = .int .i64 i ∧ ∃ c, e 7 = .int .i64 c ∧ 0 ≤ c ∧ c < 2147483647 ∧ codeS key kind d = codeL c (L.drop i)) ?_ ?_
 ·exact ⟨(by first | rfl | (simp (disch := omega) only [go_sem, jA, jB, jC, jD, jE, jF, jG, jH, jI, jJ, ↓reduceIte, reduceCtorEq, jP, jO, jM, jN]; try rfl)), 7, (by first | rfl | (simp (disch := omega) only [go_sem, jA, jB, jC, jD, jE, jF, jG, jH, jI, jJ, ↓reduceIte, reduceCtorEq, jP, jO, jM, jN]; try rfl)), by omega, by omega, by rw [codeS, hLL]; rfl⟩
 rintro i fe ob c hi ⟨h24, x, hx, x0, x1, hc⟩
 simp (maxSteps := 1000000) only [go_sem, jA, jB, jC, jD, jE, jF, jG, jH, jI, jJ, ↓reduceIte, reduceCtorEq, jP] at h24 hx
 try simp (disch := omega) only [go_sem, jA, jB, jC, jD, jE, jF, jG, jH, jI, jJ, ↓reduceIte, reduceCtorEq, jO, jM, jN, jK, jL, h24]
 refine cond_d (fun hlt => ?_) (fun hge => ?_)
 ·have hil : i < L.length := by omega
  have hgi := ints_get L i
  rw [List.getElem?_eq_getElem hil] at hgi
  rw [List.drop_eq_getElem_cons hil, codeL] at hc
  generalize L[i] = n at *
  have b1 := tmod_bdP n
  generalize hy : n.tmod 2147483647 = y at *
  have b2 := tmod_bd0 (y + 2147483647) (by omega)
  generalize hz : (y + 2147483647).tmod 2147483647 = z at *
  have b3 := tmod_bd0 (31 * x + z) (by omega)
  try simp (disch := omega) only [go_sem, jA, jB, jC, jD, jE, jF, jG, jH, jI, jJ, ↓reduceIte, reduceCtorEq, jO, jM, jN, jK, jL, h24, hx, hgi, Option.map_some, ints_length, h7, hy, hz]
  exact ⟨by omega, by omega, up_next (by omega) ⟨(by first | rfl | (simp (disch := omega) only [go_sem, jA, jB, jC, jD, jE, jF, jG, jH, jI, jJ, ↓reduceIte, reduceCtorEq, jP, jO, jM, jN]; try rfl)), _, (by first | rfl | (simp (disch := omega) only [go_sem, jA, jB, jC, jD, jE, jF, jG, jH, jI, jJ, ↓reduceIte, reduceCtorEq, jP, jO, jM, jN]; try rfl)), b3.1, b3.2, hc⟩⟩
 obtain rfl : i = 7 := by omega
 rw [List.drop_of_length_le (by omega), codeL] at hc
 try simp (disch := omega) only [go_sem, jA, jB, jC, jD, jE, jF, jG, jH, jI, jJ, ↓reduceIte, reduceCtorEq, jO, jM, jN, jK, jL, hx]
 rw [hc]
 exact Pub.pure rfl
theorem ok_ref26_right (K : Dk) (d : Dv) (hl : K.ps.length ≤ 4611686018427387904) : PC prog n_ref26_right [dkv K, dvv d] (.bool (rgtS K d)) := by
 refine PC_of_body b_ref26_right (by simp) ?_
 simp only [c_ref26_right, dvv, dvX]
 have hK : (dkv K).flat = true := by simp [dkv, go_sem]
 have hKc : (dkv K).cells.length = 3 := rfl
 have hKp := dkv_pur K
 have hKt : AV.agg ((dkv K).cells.take 3) = dkv K := rfl
 have hKd : AV.agg (((dkv K).cells.drop 0).take 3) = dkv K := rfl
 have no : ∀ {σ : St}, rgtS K d = false → Pub σ (.bool false) (.bool (rgtS K d)) := fun h => Pub.of_eq (by rw [h]) rfl
 try simp (disch := omega) only [go_sem, jA, jB, jC, jD, jE, jF, jG, jH, jI, jJ, ↓reduceIte, reduceCtorEq, jO, jM, jN, jK, jL, hK, hKc]
 refine call_pc (ok_ref26_in _ _ _) (by simp [go_sem]) ?_
 cases h1 : inD d.site 0 5
 ·try simp (disch := omega) only [go_sem, jA, jB, jC, jD, jE, jF, jG, jH, jI, jJ, ↓reduceIte, reduceCtorEq, jO, jM, jN, jK, jL]
  exact no (by simp [rgtS, h1])
 try simp (disch := omega) only [go_sem, jA, jB, jC, jD, jE, jF, jG, jH, jI, jJ, ↓reduceIte, reduceCtorEq, jO, jM, jN, jK, jL]
 refine gd_fd rfl (fun h2 => ?_) (fun h2 => ?_) <;> try simp (disch := omega) only [go_sem, jA, jB, jC, jD, jE, jF, jG, jH, jI, jJ, ↓reduceIte, reduceCtorEq, jO, jM, jN, jK, jL]
 ·exact no (by simp [rgtS, h2])
 refine gd_fd rfl (fun h3 => ?_) (fun h3 => ?_) <;> try simp (disch := omega) only [go_sem, jA, jB, jC, jD, jE, jF, jG, jH, jI, jJ, ↓reduceIte, reduceCtorEq, jO, jM, jN, jK, jL]
 ·exact no (by simp [rgtS, h3])
 refine gd_fd rfl (fun h4 => ?_) (fun h4 => ?_) <;> try simp (disch := omega) only [go_sem, jA, jB, jC, jD, jE, jF, jG, jH, jI, jJ, ↓reduceIte, reduceCtorEq, jO, jM, jN, jK, jL]
 ·exact no (by simp [rgtS, h4])
 refine call_pc (ok_ref26_in _ _ _) (by simp [go_sem]) ?_
 cases h5 : inD d.rel 0 1073741824
 ·try simp (disch := omega) only [go_sem, jA, jB, jC, jD, jE, jF, jG, jH, jI, jJ, ↓reduceIte, reduceCtorEq, jO, jM, jN, jK, jL]
  exact no (by simp [rgtS, h5])
 try simp (disch := omega) only [go_sem, jA, jB, jC, jD, jE, jF, jG, jH, jI, jJ, ↓reduceIte, reduceCtorEq, jO, jM, jN, jK, jL, ints_length]
 refine cond_d (fun h6 => ?_) (fun h6 => ?_) <;> try simp (disch := omega) only [go_sem, jA, jB, jC, jD, jE, jF, jG, jH, jI, jJ, ↓reduceIte, reduceCtorEq, jO, jM, jN, jK, jL, ints_length]
 ·exact no (by simp only [rgtS]; rw [decide_eq_false (show ¬ d.sg.length ≤ 2 by omega)]; simp)
 have hR : rgtS K d = (d.sg.all (fun s => (prsS K s).2) && (decide (d.sg.length < 2) || !decide ((rolesS K d.sg).getD 0 0 = (rolesS K d.sg).getD 1 0))) := by
  simp only [rgtS, h1, h5, decide_eq_false h2, decide_eq_false h3, decide_eq_false h4]
  rw [decide_eq_true (show d.sg.length ≤ 2 by omega)]; simp
 refine awp_upG [4, 5, 7, 8, 9, 46, 47, 48, 49, 50, 51, 52, 53, 54, 55, 56, 57, 58, 59, 60, 61, 62, 63] (by kernel_rfl) d.sg.length (fun i e σ => e 46 = .int .i64 i ∧ 2 ≤ σ.n ∧ σ.ob 0 = some ⟨0, 3, 67, false, true, [dkv K]⟩ ∧ (d.sg.take i).all (fun s => (prsS K s).2) = true ∧ ∃ X, At e 5 X ∧ SlR 1 3 σ (ints (rolesS K (d.sg.take i))) X ∧ ∀ j, ¬ Oth X j → 2 ≤ j) ?_ ?_
 ·exact ⟨(by first | rfl | (simp (disch := omega) only [go_sem, jA, jB, jC, jD, jE, jF, jG, jH, jI, jJ, ↓reduceIte, reduceCtorEq, jP, jO, jM, jN]; try rfl)), Nat.le_refl _, by try simp (disch := omega) only [go_sem, jA, jB, jC, jD, jE, jF, jG, jH, jI, jJ, ↓reduceIte, reduceCtorEq, jO, jM, jN, jK, jL], rfl, .nil, (by simp only [At]; try simp (disch := omega) only [go_sem, jA, jB, jC, jD, jE, jF, jG, jH, jI, jJ, ↓reduceIte, reduceCtorEq, jO, jM, jN, jK, jL]), SlR.nil, fun j hj => absurd (Oth.nil j) hj⟩
 rintro i fe ob m c hi hm ⟨h46, hm2, h0, hall, X, h5X, hX, hXl⟩
 simp (maxSteps := 1000000) only [go_sem, jA, jB, jC, jD, jE, jF, jG, jH, jI, jJ, ↓reduceIte, reduceCtorEq, jP, At] at h46 hm hm2 h0 h5X
 try simp (disch := omega) only [go_sem, jA, jB, jC, jD, jE, jF, jG, jH, jI, jJ, ↓reduceIte, reduceCtorEq, jO, jM, jN, jK, jL, h46, ints_length]
 refine cond_d (fun hlt => ?_) (fun hge => ?_)
 ·have hil : i < d.sg.length := by omega
  have hgi := ints_get d.sg i
  have htk := take_snocA _ _ hil
  have hmem : d.sg[i] ∈ d.sg := List.getElem_mem hil
  rw [List.getElem?_eq_getElem hil] at hgi
  generalize d.sg[i] = s at *
  try simp (disch := omega) only [go_sem, jA, jB, jC, jD, jE, jF, jG, jH, jI, jJ, ↓reduceIte, reduceCtorEq, jO, jM, jN, jK, jL, h46, ints_length, hgi, Option.map_some, h0, hK, hKc, hKt, hKd]
  refine ⟨by omega, by omega, ?_⟩
  refine call_pc (ok_ref26_person K s hl) (by simp [hKp, go_sem]) ?_
  try simp (disch := omega) only [go_sem, jA, jB, jC, jD, jE, jF, jG, jH, jI, jJ, ↓reduceIte, reduceCtorEq, jO, jM, jN, jK, jL, pnv]
  cases hp : (prsS K s).2
  ·try simp (disch := omega) only [go_sem, jA, jB, jC, jD, jE, jF, jG, jH, jI, jJ, ↓reduceIte, reduceCtorEq, jO, jM, jN, jK, jL]
   refine no ?_
   rw [hR, show d.sg.all (fun s => (prsS K s).2) = false by rw [List.all_eq_false]; exact ⟨s, hmem, by simp [hp]⟩]; rfl
  try simp (disch := omega) only [go_sem, jA, jB, jC, jD, jE, jF, jG, jH, jI, jJ, ↓reduceIte, reduceCtorEq, jO, jM, jN, jK, jL, h5X]
  have hrl : (ints (rolesS K (d.sg.take i))).length ≤ 2 := by rw [ints_length, rolesS, List.length_map, List.length_take]; omega
  refine app_slr (b := 8) (hX.move (Nat.le_succ _) fun j hj _ => ?_) (by omega) (by omega) fun Y τ hY kY => ?_
  ·simp only at hj ⊢
   rw [upd_ne _ _ _ _ (by omega), upd_ne _ _ _ _ (by omega)]
  obtain ⟨ob5, m5, c5⟩ := τ
  have q1 : m + 1 ≤ m5 := kY.1
  have oX : ∀ j, j < 2 → Oth X j := fun j hj => Oth.em fun h => by have := hXl j h; omega
  have q2 : ob5 0 = ob 0 := (kY.2.1 0 (by simp only; omega) (oX 0 (by omega))).trans (by simp only; rw [upd_ne _ _ _ _ (by omega), upd_ne _ _ _ _ (by omega)])
  try simp (disch := omega) only [go_sem, jA, jB, jC, jD, jE, jF, jG, jH, jI, jJ, ↓reduceIte, reduceCtorEq, jO, jM, jN, jK, jL, h46]
  refine up_nextG m5 hil (by omega) ⟨(by first | rfl | (simp (disch := omega) only [go_sem, jA, jB, jC, jD, jE, jF, jG, jH, jI, jJ, ↓reduceIte, reduceCtorEq, jP, jO, jM, jN]; try rfl)), by simp only [St.trunc]; omega, ?_, ?_, Y, (by simp only [At]; try simp (disch := omega) only [go_sem, jA, jB, jC, jD, jE, jF, jG, jH, jI, jJ, ↓reduceIte, reduceCtorEq, jO, jM, jN, jK, jL]), ?_, fun j hj => Nat.le_of_not_lt fun hh => hj (kY.2.2 j (by simp only; omega) (oX j hh))⟩
  ·rw [tr_ob (by omega), q2]; exact h0
  ·rw [htk, List.all_append, hall]; simp [hp]
  ·rw [htk, show ints (rolesS K (d.sg.take i ++ [s])) = ints (rolesS K (d.sg.take i)) ++ [.int .i64 (prsS K s).1.role] by simp [rolesS, ints]]
   exact hY.tr
 obtain rfl : i = d.sg.length := by omega
 rw [List.take_length] at hall hX
 rw [hall, Bool.true_and] at hR
 have hrl : (rolesS K d.sg).length = d.sg.length := by rw [rolesS, List.length_map]
 generalize rolesS K d.sg = RL at *
 try simp (disch := omega) only [go_sem, jA, jB, jC, jD, jE, jF, jG, jH, jI, jJ, ↓reduceIte, reduceCtorEq, jO, jM, jN, jK, jL, h5X]
 have hno : ∀ l : List Int, ints l = [] → l = [] := fun l h => by simpa [ints] using h
 rcases hX with ⟨rfl, hn⟩ | ⟨id, g, rfl, hi2, ho⟩
 ·obtain rfl := hno _ hn
  try simp (disch := omega) only [go_sem, jA, jB, jC, jD, jE, jF, jG, jH, jI, jJ, ↓reduceIte, reduceCtorEq, jO, jM, jN, jK, jL]
  rw [hR]
  exact Pub.of_eq (by rw [← hrl]; rfl) rfl
 ·simp only at ho
  try simp (disch := omega) only [go_sem, jA, jB, jC, jD, jE, jF, jG, jH, jI, jJ, ↓reduceIte, reduceCtorEq, jO, jM, jN, jK, jL, ints_length]
  refine gd_fd rfl (fun hlt => ?_) (fun hge => ?_)
  ·try simp (disch := omega) only [go_sem, jA, jB, jC, jD, jE, jF, jG, jH, jI, jJ, ↓reduceIte, reduceCtorEq, jO, jM, jN, jK, jL]
   rw [hR]
   exact Pub.of_eq (by rw [decide_eq_true (show d.sg.length < 2 by omega)]; rfl) rfl
  ·match RL, hrl with
   | [a, b], hrl =>
    simp only [ints, List.map_cons, List.map_nil] at ho ⊢
    try simp (disch := omega) only [go_sem, jA, jB, jC, jD, jE, jF, jG, jH, jI, jJ, ↓reduceIte, reduceCtorEq, jO, jM, jN, jK, jL, ho, ints]
    rw [hR]
    exact Pub.of_eq (by rw [← hrl]; rfl) rfl
   | [], hrl => simp at hge
   | [_], hrl => simp at hge
   | _ :: _ :: _ :: _, hrl => simp at hrl; omega
theorem range_all_snoc {q : Nat → Bool} {i : Nat} (h : (List.range i).all q = true) (hq : q i = true) : (List.range (i + 1)).all q = true := by
 rw [List.range_succ, List.all_append, h]; simp [hq]
theorem range_all_no {q : Nat → Bool} {i n : Nat} (hi : i < n) (hq : q i = false) : (List.range n).all q = false := by
 rw [List.all_eq_false]; exact ⟨i, List.mem_range.2 hi, by simp [hq]⟩
theorem ok_ref26_Check (K : Dk) (hl : K.ps.length ≤ 4611686018427387904) (hl2 : K.ds.length ≤ 4611686018427387904) : PC prog n_ref26_Check [dkv K] (.int .i64 (chkDS K)) := by
 refine PC_of_body b_ref26_Check (by simp) ?_
 simp only [c_ref26_Check]
 have hK : (dkv K).flat = true := by simp [dkv, go_sem]
 have hKc : (dkv K).cells.length = 3 := rfl
 have hKp := dkv_pur K
 have hKt : AV.agg ((dkv K).cells.take 3) = dkv K := rfl
 have hKd : AV.agg (((dkv K).cells.drop 0).take 3) = dkv K := rfl
 have g0 : (dkv K).cells.getD 0 .junk = .list 3 (pns K.ps) := rfl
 have g1 : (dkv K).cells.getD 1 .junk = .int .i64 K.nx := rfl
 have g2 : (dkv K).cells.getD 2 .junk = .list 7 (dvs K.ds) := rfl
 have no : ∀ {σ : St}, chkD K = false → Pub σ (.int .i64 50) (.int .i64 (chkDS K)) := fun h => Pub.of_eq (by rw [chkDS, h]; rfl) rfl
 try simp (disch := omega) only [go_sem, jA, jB, jC, jD, jE, jF, jG, jH, jI, jJ, ↓reduceIte, reduceCtorEq, jO, jM, jN, jK, jL, hK, hKc, g0, g1, g2, pns_length, dvs_length]
 refine gd_fd rfl (fun h1 => ?_) (fun h1 => ?_) <;> try simp (disch := omega) only [go_sem, jA, jB, jC, jD, jE, jF, jG, jH, jI, jJ, ↓reduceIte, reduceCtorEq, jO, jM, jN, jK, jL, g1]
 ·exact no (by simp only [chkD]; rw [decide_eq_false (show ¬ K.ps.length ≤ 12 by omega)]; simp)
 refine call_pc (ok_ref26_in _ _ _) (by simp [go_sem]) ?_
 cases h2 : inD K.nx 1 1073741824
 ·try simp (disch := omega) only [go_sem, jA, jB, jC, jD, jE, jF, jG, jH, jI, jJ, ↓reduceIte, reduceCtorEq, jO, jM, jN, jK, jL]
  exact no (by simp [chkD, h2])
 try simp (disch := omega) only [go_sem, jA, jB, jC, jD, jE, jF, jG, jH, jI, jJ, ↓reduceIte, reduceCtorEq, jO, jM, jN, jK, jL, g2, dvs_length]
 refine cond_d (fun h3 => ?_) (fun h3 => ?_) <;> try simp (disch := omega) only [go_sem, jA, jB, jC, jD, jE, jF, jG, jH, jI, jJ, ↓reduceIte, reduceCtorEq, jO, jM, jN, jK, jL, g0, pns_length]
 ·exact no (by simp only [chkD]; rw [decide_eq_false (show ¬ K.ds.length ≤ 64 by omega)]; simp)
 have hC : chkD K = ((List.range K.ps.length).all (okP K) && (List.range K.ds.length).all (okD K)) := by
  simp only [chkD, h2]
  rw [decide_eq_true (show K.ps.length ≤ 12 by omega), decide_eq_true (show K.ds.length ≤ 64 by omega)]; simp
 refine awp_upG [2, 3, 4, 26, 27, 28, 29, 30, 31, 32, 33, 34, 35, 36, 37, 38, 39, 40, 41, 42, 43, 44, 45, 46, 47, 48, 49, 50, 51, 52, 53, 54, 55, 56, 57, 58, 59, 60, 61, 62, 63] (by kernel_rfl) K.ps.length (fun i e σ => e 26 = .int .i64 i ∧ 1 ≤ σ.n ∧ σ.ob 0 = some ⟨0, 3, 67, false, true, [dkv K]⟩ ∧ (List.range i).all (okP K) = true) ?_ ?_
 ·exact ⟨(by first | rfl | (simp (disch := omega) only [go_sem, jA, jB, jC, jD, jE, jF, jG, jH, jI, jJ, ↓reduceIte, reduceCtorEq, jP, jO, jM, jN]; try rfl)), Nat.le_refl _, by try simp (disch := omega) only [go_sem, jA, jB, jC, jD, jE, jF, jG, jH, jI, jJ, ↓reduceIte, reduceCtorEq, jO, jM, jN, jK, jL], rfl⟩
 rintro i fe ob m c hi hm ⟨h26, hm1, h0, hall⟩
 simp (maxSteps := 1000000) only [go_sem, jA, jB, jC, jD, jE, jF, jG, jH, jI, jJ, ↓reduceIte, reduceCtorEq, jP] at h26 hm hm1 h0
 try simp (disch := omega) only [go_sem, jA, jB, jC, jD, jE, jF, jG, jH, jI, jJ, ↓reduceIte, reduceCtorEq, jO, jM, jN, jK, jL, h26, pns_length]
 refine cond_d (fun hlt => ?_) (fun hge => ?_)
 ·have hil : i < K.ps.length := by omega
  have hg := gP_get hil
  have hgq : 0 < i → K.ps[i - 1]? = some (gP K.ps (i - 1)) := fun h => gP_get (by omega)
  have hno : okP K i = false → ∀ {σ : St}, Pub σ (.int .i64 50) (.int .i64 (chkDS K)) := fun h σ => no (by rw [hC, range_all_no hil h]; rfl)
  have hok : okP K i = (inD (gP K.ps i).id 1 1073741824 && !(decide (0 < i) && decide ((gP K.ps i).id ≤ (gP K.ps (i - 1)).id)) && inD (gP K.ps i).role 1 9 && inD (gP K.ps i).key 1 1073741824) := rfl
  have z1 : ¬ 0 = m := by omega
  try simp (disch := omega) only [go_sem, jA, jB, jC, jD, jE, jF, jG, jH, jI, jJ, ↓reduceIte, reduceCtorEq, jO, jM, jN, jK, jL, h26, pns_get, hg, Option.map_some, pns_length, pnv]
  refine ⟨by omega, by omega, ?_⟩
  refine call_pc (ok_ref26_in _ _ _) (by simp [go_sem]) ?_
  cases k1 : inD (gP K.ps i).id 1 1073741824
  ·try simp (disch := omega) only [go_sem, jA, jB, jC, jD, jE, jF, jG, jH, jI, jJ, ↓reduceIte, reduceCtorEq, jO, jM, jN, jK, jL]
   exact hno (by rw [hok, k1]; rfl)
  try simp (disch := omega) only [go_sem, jA, jB, jC, jD, jE, jF, jG, jH, jI, jJ, ↓reduceIte, reduceCtorEq, jO, jM, jN, jK, jL, h26]
  refine gd_td rfl (fun hp => ?_) (fun hp => ?_)
  ·have hgp := hgq (by omega)
   have ei : ((i : Int) - 1).toNat = i - 1 := by omega
   try simp (disch := omega) only [go_sem, jA, jB, jC, jD, jE, jF, jG, jH, jI, jJ, ↓reduceIte, reduceCtorEq, jO, jM, jN, jK, jL, h26, h0, g0, z1, hK, hKc, ei, pns_get, hgp, Option.map_some, pns_length, pnv]
   refine ⟨by omega, by omega, ?_⟩
   refine gd_fd rfl (fun hq => ?_) (fun hq => ?_) <;> try simp (disch := omega) only [go_sem, jA, jB, jC, jD, jE, jF, jG, jH, jI, jJ, ↓reduceIte, reduceCtorEq, jO, jM, jN, jK, jL, z1]
   ·exact hno (by rw [hok]; simp [hq]; omega)
   refine call_pc (ok_ref26_in _ _ _) (by simp [go_sem]) ?_
   cases k3 : inD (gP K.ps i).role 1 9
   ·try simp (disch := omega) only [go_sem, jA, jB, jC, jD, jE, jF, jG, jH, jI, jJ, ↓reduceIte, reduceCtorEq, jO, jM, jN, jK, jL]
    exact hno (by rw [hok, k3]; simp)
   try simp (disch := omega) only [go_sem, jA, jB, jC, jD, jE, jF, jG, jH, jI, jJ, ↓reduceIte, reduceCtorEq, jO, jM, jN, jK, jL, z1]
   refine call_pc (ok_ref26_in _ _ _) (by simp [go_sem]) ?_
   cases k4 : inD (gP K.ps i).key 1 1073741824
   ·try simp (disch := omega) only [go_sem, jA, jB, jC, jD, jE, jF, jG, jH, jI, jJ, ↓reduceIte, reduceCtorEq, jO, jM, jN, jK, jL]
    exact hno (by rw [hok, k4]; simp)
   try simp (disch := omega) only [go_sem, jA, jB, jC, jD, jE, jF, jG, jH, jI, jJ, ↓reduceIte, reduceCtorEq, jO, jM, jN, jK, jL, h26]
   refine up_nextG (m + 1) hil (by omega) ⟨(by first | rfl | (simp (disch := omega) only [go_sem, jA, jB, jC, jD, jE, jF, jG, jH, jI, jJ, ↓reduceIte, reduceCtorEq, jP, jO, jM, jN]; try rfl)), by simp only [St.trunc]; omega, ?_, range_all_snoc hall (by rw [hok, k1, k3, k4]; simp [hq])⟩
   rw [tr_ob (by omega), upd_ne _ _ _ _ (by omega), upd_ne _ _ _ _ (by omega)]; exact h0
  ·try simp (disch := omega) only [go_sem, jA, jB, jC, jD, jE, jF, jG, jH, jI, jJ, ↓reduceIte, reduceCtorEq, jO, jM, jN, jK, jL, h26, z1]
   refine call_pc (ok_ref26_in _ _ _) (by simp [go_sem]) ?_
   cases k3 : inD (gP K.ps i).role 1 9
   ·try simp (disch := omega) only [go_sem, jA, jB, jC, jD, jE, jF, jG, jH, jI, jJ, ↓reduceIte, reduceCtorEq, jO, jM, jN, jK, jL]
    exact hno (by rw [hok, k3]; simp)
   try simp (disch := omega) only [go_sem, jA, jB, jC, jD, jE, jF, jG, jH, jI, jJ, ↓reduceIte, reduceCtorEq, jO, jM, jN, jK, jL, z1]
   refine call_pc (ok_ref26_in _ _ _) (by simp [go_sem]) ?_
   cases k4 : inD (gP K.ps i).key 1 1073741824
   ·try simp (disch := omega) only [go_sem, jA, jB, jC, jD, jE, jF, jG, jH, jI, jJ, ↓reduceIte, reduceCtorEq, jO, jM, jN, jK, jL]
    exact hno (by rw [hok, k4]; simp)
   try simp (disch := omega) only [go_sem, jA, jB, jC, jD, jE, jF, jG, jH, jI, jJ, ↓reduceIte, reduceCtorEq, jO, jM, jN, jK, jL, h26]
   refine up_nextG (m + 1) hil (by omega) ⟨(by first | rfl | (simp (disch := omega) only [go_sem, jA, jB, jC, jD, jE, jF, jG, jH, jI, jJ, ↓reduceIte, reduceCtorEq, jP, jO, jM, jN]; try rfl)), by simp only [St.trunc]; omega, ?_, range_all_snoc hall (by rw [hok, k1, k3, k4]; simp; omega)⟩
   rw [tr_ob (by omega), upd_ne _ _ _ _ (by omega), upd_ne _ _ _ _ (by omega)]; exact h0
 obtain rfl : i = K.ps.length := by omega
 rw [hall, Bool.true_and] at hC
 clear h26 hge
 try simp (disch := omega) only [go_sem, jA, jB, jC, jD, jE, jF, jG, jH, jI, jJ, ↓reduceIte, reduceCtorEq, jO, jM, jN, jK, jL, h0, g2, dvs_length]
 refine awp_upG [2, 5, 6, 67, 68, 69, 70, 71, 72, 73, 74, 75, 76, 77, 78, 79, 80, 81, 82, 83, 84, 85, 86, 87, 88, 89, 90, 91, 92, 93, 94, 95, 96, 97, 98, 99, 100, 101] (by kernel_rfl) K.ds.length (fun i e σ => e 67 = .int .i64 i ∧ 1 ≤ σ.n ∧ σ.ob 0 = some ⟨0, 3, 67, false, true, [dkv K]⟩ ∧ (List.range i).all (okD K) = true) ?_ ?_
 ·exact ⟨(by first | rfl | (simp (disch := omega) only [go_sem, jA, jB, jC, jD, jE, jF, jG, jH, jI, jJ, ↓reduceIte, reduceCtorEq, jP, jO, jM, jN]; try rfl)), hm1, h0, rfl⟩
 clear h0 hm1 hm
 rintro i fe2 ob2 m2 c2 hi2 hm2 ⟨h67, hm3, v0, hall2⟩
 simp (maxSteps := 1000000) only [go_sem, jA, jB, jC, jD, jE, jF, jG, jH, jI, jJ, ↓reduceIte, reduceCtorEq, jP] at h67 hm2 hm3 v0
 try simp (disch := omega) only [go_sem, jA, jB, jC, jD, jE, jF, jG, jH, jI, jJ, ↓reduceIte, reduceCtorEq, jO, jM, jN, jK, jL, h67, dvs_length]
 refine cond_d (fun hlt => ?_) (fun hge => ?_)
 ·have hil : i < K.ds.length := by omega
  have hg := gD_get hil
  have hgq : 0 < i → K.ds[i - 1]? = some (gD K.ds (i - 1)) := fun h => gD_get (by omega)
  have hno : okD K i = false → ∀ {σ : St}, Pub σ (.int .i64 50) (.int .i64 (chkDS K)) := fun h σ => no (by rw [hC, range_all_no hil h])
  have hok : okD K i = (inD (gD K.ds i).id 1 (K.nx - 1) && !(decide (0 < i) && decide ((gD K.ds i).id ≤ (gD K.ds (i - 1)).id)) && rgtS K (gD K.ds i)) := rfl
  have z1 : ¬ 0 = m2 := by omega
  have hnx : 1 ≤ K.nx ∧ K.nx ≤ 1073741824 := by simpa [inD] using h2
  try simp (disch := omega) only [go_sem, jA, jB, jC, jD, jE, jF, jG, jH, jI, jJ, ↓reduceIte, reduceCtorEq, jO, jM, jN, jK, jL, h67, dvs_get, hg, Option.map_some, dvs_length, dv0_fold, dvv_put, dvv_flat, dvv_len, dvv_tk, dvv_dt, dvv_ct, dvv_ca, dvv_one, dvv_0, v0, z1, hK, hKc, g1]
  refine ⟨by omega, by omega, ?_⟩
  refine call_pc (ok_ref26_in _ _ _) (by simp [go_sem]) ?_
  cases k1 : inD (gD K.ds i).id 1 (K.nx - 1)
  ·try simp (disch := omega) only [go_sem, jA, jB, jC, jD, jE, jF, jG, jH, jI, jJ, ↓reduceIte, reduceCtorEq, jO, jM, jN, jK, jL]
   exact hno (by rw [hok, k1]; rfl)
  try simp (disch := omega) only [go_sem, jA, jB, jC, jD, jE, jF, jG, jH, jI, jJ, ↓reduceIte, reduceCtorEq, jO, jM, jN, jK, jL, h67]
  refine gd_td rfl (fun hp => ?_) (fun hp => ?_)
  ·have hgp := hgq (by omega)
   have ei : ((i : Int) - 1).toNat = i - 1 := by omega
   try simp (disch := omega) only [go_sem, jA, jB, jC, jD, jE, jF, jG, jH, jI, jJ, ↓reduceIte, reduceCtorEq, jO, jM, jN, jK, jL, h67, v0, g2, z1, hK, hKc, ei, dvs_get, hgp, Option.map_some, dvs_length, dv0_fold, dvv_put, dvv_flat, dvv_len, dvv_tk, dvv_dt, dvv_ct, dvv_ca, dvv_one, dvv_0]
   refine ⟨by omega, by omega, ?_⟩
   refine gd_fd rfl (fun hq => ?_) (fun hq => ?_) <;> try simp (disch := omega) only [go_sem, jA, jB, jC, jD, jE, jF, jG, jH, jI, jJ, ↓reduceIte, reduceCtorEq, jO, jM, jN, jK, jL, z1, v0, hK, hKc, hKt, hKd, dv0_fold, dvv_put, dvv_flat, dvv_len, dvv_tk, dvv_dt, dvv_ct, dvv_ca, dvv_one, dvv_0]
   ·exact hno (by rw [hok]; simp [hq]; omega)
   refine call_pc (ok_ref26_right K (gD K.ds i) hl) (by simp [hKp, dvv_pur]) ?_
   cases k3 : rgtS K (gD K.ds i)
   ·try simp (disch := omega) only [go_sem, jA, jB, jC, jD, jE, jF, jG, jH, jI, jJ, ↓reduceIte, reduceCtorEq, jO, jM, jN, jK, jL]
    exact hno (by rw [hok, k3]; simp)
   try simp (disch := omega) only [go_sem, jA, jB, jC, jD, jE, jF, jG, jH, jI, jJ, ↓reduceIte, reduceCtorEq, jO, jM, jN, jK, jL, h67]
   refine up_nextG (m2 + 1) hil (by omega) ⟨(by first | rfl | (simp (disch := omega) only [go_sem, jA, jB, jC, jD, jE, jF, jG, jH, jI, jJ, ↓reduceIte, reduceCtorEq, jP, jO, jM, jN]; try rfl)), by simp only [St.trunc]; omega, ?_, range_all_snoc hall2 (by rw [hok, k1, k3]; simp [hq])⟩
   rw [tr_ob (by omega), upd_ne _ _ _ _ (by omega), upd_ne _ _ _ _ (by omega)]; exact v0
  ·try simp (disch := omega) only [go_sem, jA, jB, jC, jD, jE, jF, jG, jH, jI, jJ, ↓reduceIte, reduceCtorEq, jO, jM, jN, jK, jL, h67, z1, v0, hK, hKc, hKt, hKd, dv0_fold, dvv_put, dvv_flat, dvv_len, dvv_tk, dvv_dt, dvv_ct, dvv_ca, dvv_one, dvv_0]
   refine call_pc (ok_ref26_right K (gD K.ds i) hl) (by simp [hKp, dvv_pur]) ?_
   cases k3 : rgtS K (gD K.ds i)
   ·try simp (disch := omega) only [go_sem, jA, jB, jC, jD, jE, jF, jG, jH, jI, jJ, ↓reduceIte, reduceCtorEq, jO, jM, jN, jK, jL]
    exact hno (by rw [hok, k3]; simp)
   try simp (disch := omega) only [go_sem, jA, jB, jC, jD, jE, jF, jG, jH, jI, jJ, ↓reduceIte, reduceCtorEq, jO, jM, jN, jK, jL, h67]
   refine up_nextG (m2 + 1) hil (by omega) ⟨(by first | rfl | (simp (disch := omega) only [go_sem, jA, jB, jC, jD, jE, jF, jG, jH, jI, jJ, ↓reduceIte, reduceCtorEq, jP, jO, jM, jN]; try rfl)), by simp only [St.trunc]; omega, ?_, range_all_snoc hall2 (by rw [hok, k1, k3]; simp; omega)⟩
   rw [tr_ob (by omega), upd_ne _ _ _ _ (by omega), upd_ne _ _ _ _ (by omega)]; exact v0
 obtain rfl : i = K.ds.length := by omega
 try simp (disch := omega) only [go_sem, jA, jB, jC, jD, jE, jF, jG, jH, jI, jJ, ↓reduceIte, reduceCtorEq, jO, jM, jN, jK, jL]
 exact Pub.of_eq (by rw [chkDS, hC, hall2]; rfl) rfl
theorem ok_ref26_ask (K : Dk) (id who code now kind : Int) (hl : K.ps.length ≤ 4611686018427387904) (hl2 : K.ds.length ≤ 4611686018427387904) :
  PC prog n_ref26_ask [dkv K, .int .i64 id, .int .i64 who, .int .i64 code, .int .i64 now, .int .i64 kind] (.tuple [.int .i64 (askS K id who code now kind).1, pnv (askS K id who code now kind).2.1, .int .i64 (askS K id who code now kind).2.2]) := by
 refine PC_of_body b_ref26_ask (by simp) ?_
 simp only [c_ref26_ask]
 have hK : (dkv K).flat = true := by simp [dkv, go_sem]
 have hKc : (dkv K).cells.length = 3 := rfl
 have hKp := dkv_pur K
 have hKt : AV.agg ((dkv K).cells.take 3) = dkv K := rfl
 have hKd : AV.agg (((dkv K).cells.drop 0).take 3) = dkv K := rfl
 have g2 : (dkv K).cells.getD 2 .junk = .list 7 (dvs K.ds) := rfl
 have fin : ∀ {σ : St} (i e : Int) (p : Pn), askS K id who code now kind = (i, p, e) → Pub σ (.tuple [.int .i64 i, pnv p, .int .i64 e]) (.tuple [.int .i64 (askS K id who code now kind).1, pnv (askS K id who code now kind).2.1, .int .i64 (askS K id who code now kind).2.2]) := fun i e p h => by
  rw [h]; exact Pub.pure rfl
 try simp (disch := omega) only [go_sem, jA, jB, jC, jD, jE, jF, jG, jH, jI, jJ, ↓reduceIte, reduceCtorEq, jO, jM, jN, jK, jL, hK, hKc, hKt, hKd]
 refine call_pc (ok_ref26_Check K hl hl2) (by simp [hKp]) ?_
 rw [chkDS]
 cases hc : chkD K
 ·try simp (disch := omega) only [go_sem, jA, jB, jC, jD, jE, jF, jG, jH, jI, jJ, ↓reduceIte, reduceCtorEq, jO, jM, jN, jK, jL]
  exact fin 0 50 pn0 (by rw [askS, if_pos hc])
 try simp (disch := omega) only [go_sem, jA, jB, jC, jD, jE, jF, jG, jH, jI, jJ, ↓reduceIte, reduceCtorEq, jO, jM, jN, jK, jL, g2, dvs_length]
 have hA : askS K id who code now kind = askG K id who code now kind K.ds 0 := by rw [askS, if_neg (by simp [hc])]
 refine awp_upG [12, 14, 15, 16, 17, 18, 26, 27, 28, 29, 30, 31, 32, 33, 34, 35, 36, 37, 38, 39, 40, 41, 42, 43, 44, 45, 46, 47, 48, 49, 50, 51, 52, 53, 54, 55, 56, 57, 58, 59, 60, 61, 62, 63] (by kernel_rfl) K.ds.length (fun i e σ => e 26 = .int .i64 i ∧ 2 ≤ σ.n ∧ σ.ob 0 = some ⟨0, 3, 67, false, true, [dkv K]⟩ ∧ σ.ob 1 = some ⟨1, 3, 132, false, true, [.agg [.int .i64 0, .int .i64 0, .int .i64 0]]⟩ ∧
  askS K id who code now kind = askG K id who code now kind (K.ds.drop i) i) ?_ ?_
 ·exact ⟨(by first | rfl | (simp (disch := omega) only [go_sem, jA, jB, jC, jD, jE, jF, jG, jH, jI, jJ, ↓reduceIte, reduceCtorEq, jP, jO, jM, jN]; try rfl)), Nat.le_refl _, by try simp (disch := omega) only [go_sem, jA, jB, jC, jD, jE, jF, jG, jH, jI, jJ, ↓reduceIte, reduceCtorEq, jO, jM, jN, jK, jL], by try simp (disch := omega) only [go_sem, jA, jB, jC, jD, jE, jF, jG, jH, jI, jJ, ↓reduceIte, reduceCtorEq, jO, jM, jN, jK, jL], hA⟩
 rintro i fe ob m c hi hm ⟨h26, hm1, v0, v1, hS⟩
 simp (maxSteps := 1000000) only [go_sem, jA, jB, jC, jD, jE, jF, jG, jH, jI, jJ, ↓reduceIte, reduceCtorEq, jP] at h26 hm hm1 v0 v1
 try simp (disch := omega) only [go_sem, jA, jB, jC, jD, jE, jF, jG, jH, jI, jJ, ↓reduceIte, reduceCtorEq, jO, jM, jN, jK, jL, h26, dvs_length]
 refine cond_d (fun hlt => ?_) (fun hge => ?_)
 ·have hil : i < K.ds.length := by omega
  have hg : K.ds[i]? = some K.ds[i] := List.getElem?_eq_getElem hil
  rw [List.drop_eq_getElem_cons hil, askG] at hS
  generalize K.ds[i] = d at *
  have z0 : ¬ 0 = m := by omega
  have z1 : ¬ 1 = m := by omega
  try simp (disch := omega) only [go_sem, jA, jB, jC, jD, jE, jF, jG, jH, jI, jJ, ↓reduceIte, reduceCtorEq, jO, jM, jN, jK, jL, h26, dvs_get, hg, Option.map_some, dvs_length, dv0_fold, dvv_put, dvv_flat, dvv_len, dvv_tk, dvv_dt, dvv_ct, dvv_ca, dvv_one, dvv_0]
  refine ⟨by omega, by omega, ?_⟩
  refine cond_n (fun k1 => ?_) (fun k1 => ?_)
  ·try simp (disch := omega) only [go_sem, jA, jB, jC, jD, jE, jF, jG, jH, jI, jJ, ↓reduceIte, reduceCtorEq, jO, jM, jN, jK, jL, h26]
   rw [if_pos k1] at hS
   refine up_nextG (m + 1) hil (by omega) ⟨(by first | rfl | (simp (disch := omega) only [go_sem, jA, jB, jC, jD, jE, jF, jG, jH, jI, jJ, ↓reduceIte, reduceCtorEq, jP, jO, jM, jN]; try rfl)), by simp only [St.trunc]; omega, ?_, ?_, hS⟩
   ·rw [tr_ob (by omega), upd_ne _ _ _ _ (by omega), upd_ne _ _ _ _ (by omega)]; exact v0
   ·rw [tr_ob (by omega), upd_ne _ _ _ _ (by omega), upd_ne _ _ _ _ (by omega)]; exact v1
  rw [if_neg (by simpa using k1)] at hS
  try simp (disch := omega) only [go_sem, jA, jB, jC, jD, jE, jF, jG, jH, jI, jJ, ↓reduceIte, reduceCtorEq, jO, jM, jN, jK, jL, dvv_6]
  have bad : ∀ e, askS K id who code now kind = (0, pn0, e) → True := fun _ _ => trivial
  cases k2 : d.wd
  ·try simp (disch := omega) only [go_sem, jA, jB, jC, jD, jE, jF, jG, jH, jI, jJ, ↓reduceIte, reduceCtorEq, jO, jM, jN, jK, jL, dvv_3, dvv_flat, dvv_len, dvv_ct, dvv_ca]
   refine cond_d (fun k3 => ?_) (fun k3 => ?_)
   ·try simp (disch := omega) only [go_sem, jA, jB, jC, jD, jE, jF, jG, jH, jI, jJ, ↓reduceIte, reduceCtorEq, jO, jM, jN, jK, jL, v1, z1]
    rw [if_pos (.inr k3)] at hS
    exact fin 0 44 pn0 hS
   rw [if_neg (by simp [k2]; omega)] at hS
   try simp (disch := omega) only [go_sem, jA, jB, jC, jD, jE, jF, jG, jH, jI, jJ, ↓reduceIte, reduceCtorEq, jO, jM, jN, jK, jL, v0, v1, z0, z1, hK, hKc, hKt, hKd]
   refine call_pc (ok_ref26_person K who hl) (by simp [hKp, go_sem]) ?_
   try simp (disch := omega) only [go_sem, jA, jB, jC, jD, jE, jF, jG, jH, jI, jJ, ↓reduceIte, reduceCtorEq, jO, jM, jN, jK, jL, pnv]
   cases k4 : (prsS K who).2
   ·try simp (disch := omega) only [go_sem, jA, jB, jC, jD, jE, jF, jG, jH, jI, jJ, ↓reduceIte, reduceCtorEq, jO, jM, jN, jK, jL, v1, z1]
    rw [if_pos k4] at hS
    exact fin 0 11 pn0 hS
   rw [if_neg (by simp [k4])] at hS
   have z2 : ¬ m = m + 1 := by omega
   try simp (disch := omega) only [go_sem, jA, jB, jC, jD, jE, jF, jG, jH, jI, jJ, ↓reduceIte, reduceCtorEq, jO, jM, jN, jK, jL, z2, dvv_flat, dvv_len, dvv_ct, dvv_ca, dvv_tk, dvv_dt]
   refine call_pc (ok_ref26_Code (prsS K who).1.key kind d) (by simp [dvv_pur, go_sem]) ?_
   try simp (disch := omega) only [go_sem, jA, jB, jC, jD, jE, jF, jG, jH, jI, jJ, ↓reduceIte, reduceCtorEq, jO, jM, jN, jK, jL]
   refine cond_n (fun k5 => ?_) (fun k5 => ?_)
   ·try simp (disch := omega) only [go_sem, jA, jB, jC, jD, jE, jF, jG, jH, jI, jJ, ↓reduceIte, reduceCtorEq, jO, jM, jN, jK, jL, v1, z1]
    rw [if_pos k5] at hS
    have z3 : ¬ 1 = m + 1 := by omega
    try simp (disch := omega) only [go_sem, jA, jB, jC, jD, jE, jF, jG, jH, jI, jJ, ↓reduceIte, reduceCtorEq, jO, jM, jN, jK, jL, v1, z1, z3]
    exact fin 0 43 pn0 hS
   rw [if_neg (by simpa using k5)] at hS
   have z3 : ¬ 1 = m + 1 := by omega
   try simp (disch := omega) only [go_sem, jA, jB, jC, jD, jE, jF, jG, jH, jI, jJ, ↓reduceIte, reduceCtorEq, jO, jM, jN, jK, jL, v1, z1, z2, z3]
   exact fin i 0 (prsS K who).1 hS
  ·try simp (disch := omega) only [go_sem, jA, jB, jC, jD, jE, jF, jG, jH, jI, jJ, ↓reduceIte, reduceCtorEq, jO, jM, jN, jK, jL, v1, z1]
   rw [if_pos (.inl k2)] at hS
   exact fin 0 44 pn0 hS
 obtain rfl : i = K.ds.length := by omega
 rw [List.drop_length, askG] at hS
 try simp (disch := omega) only [go_sem, jA, jB, jC, jD, jE, jF, jG, jH, jI, jJ, ↓reduceIte, reduceCtorEq, jO, jM, jN, jK, jL, v1]
 exact fin 0 9 pn0 hS
abbrev tyPn : TypeId := 132
abbrev tyDv : TypeId := 37
abbrev tySg : TypeId := 3
def dvXs (l : List Dv) (Es : List AV) : List AV := List.zipWith dvX l Es
theorem dvXs_snoc {l : List Dv} {Cs : List AV} {w : Dv} {E : AV} (h : l.length = Cs.length) : dvXs (l ++ [w]) (Cs ++ [E]) = dvXs l Cs ++ [dvX w E] := by
 simp only [dvXs]; rw [List.zipWith_append h]; rfl
def inS (l : List Dv) : List (List AV) := l.map fun d => ints d.sg
def CpD (σ : St) (K : Dk) (r : AV) (τ : St) : Prop :=
 ∃ XP XA Fs l1, r = .agg [XP, .int .i64 K.nx, XA] ∧ σ.n ≤ l1 ∧ l1 ≤ τ.n ∧ SlR 3 tyPn τ (pns K.ps) XP ∧ (∀ i, ¬ Oth XP i → σ.n ≤ i ∧ i < l1) ∧
  SlR 7 tyDv τ (dvXs K.ds Fs) XA ∧ IC 1 tySg τ Fs (inS K.ds) ∧ Grp τ l1 XA Fs ∧ ∀ i, i < σ.n → τ.ob i = σ.ob i
theorem hc_ref26_Copy (σ : St) (K : Dk) (h1 : K.ps.length ≤ 1000000) (h4 : K.ds.length ≤ 1000000) (h5 : ∀ d ∈ K.ds, d.sg.length ≤ 1000000) : HC prog n_ref26_Copy [dkv K] σ (CpD σ K) := by
 obtain ⟨ob0, n0, c0⟩ := σ
 refine HC_of_body b_ref26_Copy (by simp) ?_
 simp only [c_ref26_Copy, dkv]
 try simp (disch := omega) only [go_sem, jA, jB, jC, jD, jE, jF, jG, jH, jI, jJ, ↓reduceIte, reduceCtorEq, jO, jM, jN, jK, jL]
 refine app_slrs (M := pns K.ps) (b := 24) SlR.nil (by simp [pns_length]; omega) (by simp [pns_length]; omega) fun XP τ hP kP => ?_
 obtain ⟨ob1, n1, c1⟩ := τ
 obtain ⟨k1, k2, k3⟩ := kP
 simp only [List.nil_append] at hP
 have k1' : n0 + 1 + 1 ≤ n1 := k1
 have u0 := k2 n0 (by simp only; omega) (Oth.nil _)
 have u1 := k2 (n0 + 1) (by simp only; omega) (Oth.nil _)
 try simp (disch := omega) only [go_sem, jA, jB, jC, jD, jE, jF, jG, jH, jI, jJ, ↓reduceIte, reduceCtorEq, jO, jM, jN, jK, jL] at u0
 try simp (disch := omega) only [go_sem, jA, jB, jC, jD, jE, jF, jG, jH, jI, jJ, ↓reduceIte, reduceCtorEq, jO, jM, jN, jK, jL] at u1
 try simp (disch := omega) only [go_sem, jA, jB, jC, jD, jE, jF, jG, jH, jI, jJ, ↓reduceIte, reduceCtorEq, jO, jM, jN, jK, jL, u0, u1, hP.flat, hP.cells, hP.one, dvs_length]
 refine awp_upG [3, 5, 13, 14, 15, 16, 17, 18, 19, 20, 21, 22, 23, 24, 25] (by kernel_rfl) K.ds.length (fun k e σ => e 13 = .int .i64 k ∧ n1 ≤ σ.n ∧ (∀ i, i < n1 → i ≠ n0 → σ.ob i = ob1 i) ∧ σ.ob n0 = some ⟨c0, 3, 67, false, true, [.agg [XP, .int .i64 K.nx, .list 7 (dvs K.ds)]]⟩ ∧
  ∃ Y Fs, At e 3 Y ∧ SlR 7 tyDv σ (dvXs (K.ds.take k) Fs) Y ∧ IC 1 tySg σ Fs (inS (K.ds.take k)) ∧ Grp σ n1 Y Fs) ?_ ?_
 ·exact ⟨(by first | rfl | (simp (disch := omega) only [go_sem, jA, jB, jC, jD, jE, jF, jG, jH, jI, jJ, ↓reduceIte, reduceCtorEq, jP, jO, jM, jN]; try rfl)), Nat.le_refl _, fun i hi hne => upd_ne _ _ _ _ hne, by try simp (disch := omega) only [go_sem, jA, jB, jC, jD, jE, jF, jG, jH, jI, jJ, ↓reduceIte, reduceCtorEq, jO, jM, jN, jK, jL], .nil, [], (by simp only [At]; try simp (disch := omega) only [go_sem, jA, jB, jC, jD, jE, jF, jG, jH, jI, jJ, ↓reduceIte, reduceCtorEq, jO, jM, jN, jK, jL]), by simp [dvXs]; exact SlR.nil, IC.nil _ _ _, Grp.nil _ _⟩
 rintro k fe ob m c hk hm ⟨h13, hm1, ho, hb, Y, Fs, h3, hY, hJ, hH⟩
 simp (maxSteps := 1000000) only [go_sem, jA, jB, jC, jD, jE, jF, jG, jH, jI, jJ, ↓reduceIte, reduceCtorEq, jP, At] at h13 hm hm1 ho hb h3
 try simp (disch := omega) only [go_sem, jA, jB, jC, jD, jE, jF, jG, jH, jI, jJ, ↓reduceIte, reduceCtorEq, jO, jM, jN, jK, jL, h13, dvs_length]
 refine cond_d (fun hlt => ?_) (fun hge => ?_)
 ·have hkl : k < K.ds.length := by omega
  have hk2 : K.ds[k]? = some K.ds[k] := List.getElem?_eq_getElem hkl
  have hxl := h5 _ (List.getElem_mem hkl)
  have htk : K.ds.take (k + 1) = K.ds.take k ++ [K.ds[k]] := take_snocA _ _ hkl
  have hEl : Fs.length = k := by have := hJ.1; simp [inS] at this; omega
  generalize K.ds[k] = w at *
  try simp (disch := omega) only [go_sem, jA, jB, jC, jD, jE, jF, jG, jH, jI, jJ, ↓reduceIte, reduceCtorEq, jO, jM, jN, jK, jL, h13, dvs_length, dvs_get, hk2, Option.map_some, dvv, dvX]
  refine ⟨by omega, by omega, ?_⟩
  refine app_slrs (M := ints w.sg) (b := 8) SlR.nil (by simp [ints_length]; omega) (by simp [ints_length]; omega) fun E τ1 hE kE => ?_
  obtain ⟨ob6, m6, c6⟩ := τ1
  obtain ⟨e1, e2, e3⟩ := kE
  simp only [List.nil_append] at hE
  have e1' : m + 1 ≤ m6 := e1
  have e2' : ∀ i, i < m → ob6 i = ob i := fun i hi => (e2 i (by simp only; omega) (Oth.nil _)).trans (by simp only; rw [upd_ne _ _ _ _ (by omega), upd_ne _ _ _ _ (by omega)])
  have e3' : ∀ i, i < m + 1 → Oth E i := fun i hi => e3 i hi (Oth.nil _)
  have hw6 := e2 m (by simp only; omega) (Oth.nil _)
  simp only [upd_same] at hw6
  clear u1 k2 k3 k1 e1 e2 e3
  have z3 : ¬ m = n0 := by omega
  have z5 : ¬ m = m6 := by omega
  have oY : ∀ i, i < n1 → Oth Y i := fun i hi => Oth.em fun h => by have := (hH.low i h).1; omega
  have oYm : ∀ i, m ≤ i → Oth Y i := fun i hi => hY.oth hi
  try simp (disch := omega) only [go_sem, jA, jB, jC, jD, jE, jF, jG, jH, jI, jJ, ↓reduceIte, reduceCtorEq, jO, jM, jN, jK, jL, hE.flat, hE.cells, hE.one, hw6, z3, z5, h3]
  refine app_er (ER.of_sl (L := [dvX w E]) (upd_same _ _ _) (Nat.lt_succ_self _)) ?_
  have hYl : (dvXs (K.ds.take k) Fs).length ≤ 1000000 := by simp [dvXs]; omega
  refine app_slr (b := 72) (hY.move (by simp only; omega) fun i hi hh => ?_) (by omega) (by omega) fun Y' τ2 hY2 kY => ?_
  ·simp only at hi ⊢
   rw [upd_ne _ _ _ _ (by omega), upd_ne _ _ _ _ (by omega), e2' i hi]
  obtain ⟨ob7, m7, c7⟩ := τ2
  have q1 : m6 + 1 ≤ m7 := kY.1
  have q2 : ∀ i, i < m → Oth Y i → ob7 i = ob i := fun i hi h => (kY.2.1 i (by simp only; omega) h).trans (by simp only; rw [upd_ne _ _ _ _ (by omega), upd_ne _ _ _ _ (by omega), e2' i hi])
  have q3 : ∀ i, m + 1 ≤ i → i < m6 → ob7 i = ob6 i := fun i hi hi2 => (kY.2.1 i (by simp only; omega) (oYm i (by omega))).trans (by simp only; rw [upd_ne _ _ _ _ (by omega), upd_ne _ _ _ _ (by omega)])
  have hEi : ∀ i, ¬ Oth E i → m + 1 ≤ i ∧ i < m6 := fun i hi => ⟨Nat.le_of_not_lt fun h => hi (e3' i h), hE.lt hi⟩
  try simp (disch := omega) only [go_sem, jA, jB, jC, jD, jE, jF, jG, jH, jI, jJ, ↓reduceIte, reduceCtorEq, jO, jM, jN, jK, jL, h13]
  refine up_nextG m7 hkl (by omega) ⟨(by first | rfl | (simp (disch := omega) only [go_sem, jA, jB, jC, jD, jE, jF, jG, jH, jI, jJ, ↓reduceIte, reduceCtorEq, jP, jO, jM, jN]; try rfl)), by simp only [St.trunc]; omega, fun i hi hne => ?_, ?_, Y', Fs ++ [E], (by simp only [At]; try simp (disch := omega) only [go_sem, jA, jB, jC, jD, jE, jF, jG, jH, jI, jJ, ↓reduceIte, reduceCtorEq, jO, jM, jN, jK, jL]), ?_, ?_, ?_⟩
  ·rw [tr_ob (by omega), q2 i (by omega) (oY i hi)]; exact ho i hi hne
  ·rw [tr_ob (by omega), q2 n0 (by omega) (oY n0 (by omega))]; exact hb
  ·rw [htk, dvXs_snoc (by simp; omega)]
   exact hY2.tr
  ·rw [htk, show inS (K.ds.take k ++ [w]) = inS (K.ds.take k) ++ [ints w.sg] by simp [inS]]
   refine IC.snoc (hJ.move (by simp only [St.trunc]; omega) fun F hF2 i hi hlt => ?_) (hE.move (by simp only [St.trunc]; omega) fun i hlt hi => ?_)
   ·have hi1 := (hH.loE F hF2 i hi).1
    simp only at hlt
    rw [tr_ob (by omega), q2 i hlt (hH.sep F hF2 i hi)]
   ·have hi1 := hEi i hi
    rw [tr_ob (by omega), q3 i hi1.1 hi1.2]
  ·exact (hH.snoc (by simp only; omega) (show m ≤ m6 + 1 by omega) (fun i hi => ⟨by have := (hEi i hi).1; simp only; omega, by have := (hEi i hi).2; simp only; omega⟩) kY fun i hi => hY2.oth hi).up (Nat.le_refl _)
 obtain rfl : k = K.ds.length := by omega
 rw [List.take_length] at hY hJ
 have u1' : ob (n0 + 1) = some ⟨c0 + 1, 3, 67, false, true, [.agg [.nil, .int .i64 0, .nil]]⟩ := by rw [ho _ (by omega) (by omega), u1]
 have zz : ¬ n0 + 1 = n0 := by omega
 have zz2 : ¬ n0 = n0 + 1 := by omega
 try simp (disch := omega) only [go_sem, jA, jB, jC, jD, jE, jF, jG, jH, jI, jJ, ↓reduceIte, reduceCtorEq, jO, jM, jN, jK, jL, hb, u1', zz, zz2, h3, hY.flat, hY.cells, hY.one, hP.flat, hP.cells, hP.one]
 have k3' : ∀ i, ¬ Oth XP i → n0 + 2 ≤ i := fun i hi => Nat.le_of_not_lt fun h => hi (k3 i h (Oth.nil _))
 have z3 : ∀ (x y : Option AObj) i, i ≠ n0 → i ≠ n0 + 1 → upd (upd ob n0 x) (n0 + 1) y i = ob i := fun x y i h1 h2 => by rw [upd_ne _ _ _ _ h2, upd_ne _ _ _ _ h1]
 refine ⟨XP, Y, Fs, n1, rfl, by simp only; omega, hm1, hP.move hm1 fun i hi hh => ?_, fun i hi => ⟨by have := k3' i hi; simp only; omega, hP.lt hi⟩, hY.move (Nat.le_refl _) fun i hi hh => ?_, hJ.move (Nat.le_refl _) fun E hE i hi hh => ?_, hH.up (Nat.le_refl _), fun i hi => ?_⟩
 ·have h1 := k3' i hh
  simp only at hi ⊢
  rw [z3 _ _ i (by omega) (by omega), ho i hi (by omega)]
 ·have h1 := (hH.low i hh).1
  simp only
  rw [z3 _ _ i (by omega) (by omega)]
 ·have h1 := (hH.loE E hE i hi).1
  simp only
  rw [z3 _ _ i (by omega) (by omega)]
 ·simp only at hi ⊢
  rw [z3 _ _ i (by omega) (by omega), ho i (by omega) (by omega)]
  refine (k2 i (by simp only; omega) (Oth.nil _)).trans ?_
  simp only
  rw [upd_ne _ _ _ _ (by omega), upd_ne _ _ _ _ (by omega)]
theorem pub_dk {σ : St} {ps : List Pn} {ds : List Dv} {n : Int} {XP XA : AV} {Fs : List AV} (hP : SlR 3 tyPn σ (pns ps) XP) (hA : SlR 7 tyDv σ (dvXs ds Fs) XA) (hI : IC 1 tySg σ Fs (inS ds)) : Pub σ (.agg [XP, .int .i64 n, XA]) (dkv ⟨ps, n, ds⟩) := by
 have hl : Fs.length = ds.length := by have := hI.1; simpa [inS] using this
 refine Pub.ag (.cons (hP.pub (fun _ _ _ => rfl) (pns_pur _) (pns_ok _)) (.cons (Pub.e rfl) (.cons (pub_slx hA (fun _ _ _ => rfl) (by simp [dvXs, dvs, hl]) (fun i x y hx hy => ?_) (dvs_ok _)) .nil)))
 rw [dvs_get] at hy
 obtain ⟨d, hd, rfl⟩ := Option.map_eq_some_iff.1 hy
 simp only [dvXs, List.getElem?_zipWith, hd] at hx
 cases hF : Fs[i]? with
 | none => simp [hF] at hx
 | some E =>
  simp only [hF, Option.some.injEq] at hx
  subst hx
  have hp := hI.pub (τ := σ) (fun _ _ _ _ _ => rfl) (by simp [inS]; intro a _; exact ints_pur _) (by simp [inS]; intro a _; exact ints_ok _) i E (ints d.sg) hF (by simp [inS, hd])
  exact Pub.ag (.cons (Pub.e rfl) (.cons (Pub.e rfl) (.cons (Pub.e rfl) (.cons (Pub.e rfl) (.cons (Pub.e rfl) (.cons hp (.cons (Pub.e rfl) .nil)))))))
structure DkB (K : Dk) : Prop where
 lp : K.ps.length ≤ 12
 ld : K.ds.length ≤ 64
 ip : ∀ p ∈ K.ps, 0 ≤ p.id ∧ p.id ≤ 1073741824
 kd : ∀ d ∈ K.ds, 0 ≤ d.id ∧ d.id ≤ 1073741824 ∧ d.sg.length ≤ 2
theorem dk0_b : DkB dk0 := ⟨by simp [dk0], by simp [dk0], by simp [dk0], by simp [dk0]⟩
theorem chkD_nx {K : Dk} (h : chkD K = true) : 1 ≤ K.nx ∧ K.nx ≤ 1073741824 ∧ K.ps.length ≤ 12 ∧ K.ds.length ≤ 64 := by
 simp only [chkD, Bool.and_eq_true, inD, decide_eq_true_eq] at h
 exact ⟨h.1.1.1.2.1, h.1.1.1.2.2, h.1.1.1.1, h.1.1.2⟩
theorem reqS_b {K : Dk} (h : DkB K) (site fr to rel : Int) : DkB (reqS K site fr to rel).1 := by
 unfold reqS
 cases hc : chkD K
 ·simp only [if_true]; exact dk0_b
 have h1 := chkD_nx hc
 simp only [Bool.true_eq_false, if_false]
 split
 ·exact dk0_b
 split
 ·exact dk0_b
 split
 ·exact dk0_b
 split
 ·exact dk0_b
 ·rename_i hn
  refine ⟨h.lp, by simp; omega, h.ip, fun d hd => ?_⟩
  rcases List.mem_append.1 hd with hd | hd
  ·exact h.kd d hd
  ·obtain rfl : d = _ := by simpa using hd
   exact ⟨by simp only; omega, by simp only; omega, by simp⟩
theorem set_kd {K : Dk} (h : DkB K) {i : Nat} {d : Dv} (hd : 0 ≤ d.id ∧ d.id ≤ 1073741824 ∧ d.sg.length ≤ 2) : DkB ⟨K.ps, K.nx, K.ds.set i d⟩ :=
 ⟨h.lp, by simpa using h.ld, h.ip, fun e he => by
  rcases List.mem_or_eq_of_mem_set he with he | rfl
  ·exact h.kd e he
  ·exact hd⟩
theorem gD_kd {K : Dk} (h : DkB K) (i : Nat) : 0 ≤ (gD K.ds i).id ∧ (gD K.ds i).id ≤ 1073741824 ∧ (gD K.ds i).sg.length ≤ 2 := by
 by_cases hi : i < K.ds.length
 ·exact h.kd _ (List.mem_of_getElem? (gD_get hi))
 ·have : gD K.ds i = default := by rw [gD, List.getD_eq_getElem?_getD, List.getElem?_eq_none (by omega)]; rfl
  rw [this]; simp [default, instInhabitedDv.default]
theorem sgnS_b {K : Dk} (h : DkB K) (id who code now : Int) : DkB (sgnS K id who code now).1 := by
 simp only [sgnS]
 split
 ·exact dk0_b
 split
 ·exact dk0_b
 split
 ·exact dk0_b
 ·rename_i h1 h2 _
  have hg := gD_kd h (askS K id who code now 1).1.toNat
  exact set_kd h ⟨hg.1, hg.2.1, by simp; omega⟩
theorem wdrS_b {K : Dk} (h : DkB K) (id who code now : Int) : DkB (wdrS K id who code now).1 := by
 simp only [wdrS]
 split
 ·exact dk0_b
 ·have hg := gD_kd h (askS K id who code now 2).1.toNat
  exact set_kd h ⟨hg.1, hg.2.1, hg.2.2⟩
theorem dkv_flat (K : Dk) : (dkv K).flat = true := by simp [dkv, go_sem]
theorem dkv_len (K : Dk) : (dkv K).cells.length = 3 := rfl
theorem dkv_tk (K : Dk) : AV.agg ((dkv K).cells.take 3) = dkv K := rfl
theorem dkv_dt (K : Dk) : AV.agg (((dkv K).cells.drop 0).take 3) = dkv K := rfl
theorem dkv_0 (K : Dk) : (dkv K).cells.getD 0 .junk = .list 3 (pns K.ps) := rfl
theorem dkv_1 (K : Dk) : (dkv K).cells.getD 1 .junk = .int .i64 K.nx := rfl
theorem dkv_2 (K : Dk) : (dkv K).cells.getD 2 .junk = .list 7 (dvs K.ds) := rfl
theorem dk_put (K : Dk) (a b c : AV) : setc 0 (.agg [a, b, c]) (dkv K) = .agg [a, b, c] := rfl
theorem pub_dk0 {σ : St} : Pub σ (.agg [.nil, .int .i64 0, .nil]) (dkv dk0) := Pub.ag (.cons (.nl 3) (.cons (Pub.e rfl) (.cons (.nl 7) .nil)))
theorem ok_ref26_Request (K : Dk) (hB : DkB K) (site fr to rel : Int) : PC prog n_ref26_Request [dkv K, .int .i64 site, .int .i64 fr, .int .i64 to, .int .i64 rel] (.tuple [dkv (reqS K site fr to rel).1, .int .i64 (reqS K site fr to rel).2.1, .int .i64 (reqS K site fr to rel).2.2]) := by
 have hlp := hB.lp
 have hld := hB.ld
 refine PC_of_body b_ref26_Request (by simp) ?_
 simp only [c_ref26_Request]
 have hKp := dkv_pur K
 have bad : ∀ {σ : St} (e : Int), reqS K site fr to rel = (dk0, 0, e) → Pub σ (.tuple [.agg [.nil, .int .i64 0, .nil], .int .i64 0, .int .i64 e]) (.tuple [dkv (reqS K site fr to rel).1, .int .i64 (reqS K site fr to rel).2.1, .int .i64 (reqS K site fr to rel).2.2]) := fun e h => by
  rw [h]; exact Pub.tu (.cons pub_dk0 (.cons (Pub.e rfl) (.cons (Pub.e rfl) .nil)))
 try simp (disch := omega) only [go_sem, jA, jB, jC, jD, jE, jF, jG, jH, jI, jJ, ↓reduceIte, reduceCtorEq, jO, jM, jN, jK, jL, dkv_flat, dkv_len, dkv_tk, dkv_dt]
 refine call_pc (ok_ref26_Check K (by omega) (by omega)) (by simp [hKp]) ?_
 rw [chkDS]
 cases hc : chkD K
 ·try simp (disch := omega) only [go_sem, jA, jB, jC, jD, jE, jF, jG, jH, jI, jJ, ↓reduceIte, reduceCtorEq, jO, jM, jN, jK, jL]
  exact bad 50 (by rw [reqS, if_pos hc])
 try simp (disch := omega) only [go_sem, jA, jB, jC, jD, jE, jF, jG, jH, jI, jJ, ↓reduceIte, reduceCtorEq, jO, jM, jN, jK, jL]
 refine call_pc (ok_ref26_in _ _ _) (by simp [go_sem]) ?_
 cases h2 : inD site 0 5
 ·try simp (disch := omega) only [go_sem, jA, jB, jC, jD, jE, jF, jG, jH, jI, jJ, ↓reduceIte, reduceCtorEq, jO, jM, jN, jK, jL]
  exact bad 40 (by rw [reqS, if_neg (by simp [hc]), if_pos h2])
 try simp (disch := omega) only [go_sem, jA, jB, jC, jD, jE, jF, jG, jH, jI, jJ, ↓reduceIte, reduceCtorEq, jO, jM, jN, jK, jL]
 refine gd_fd rfl (fun h3 => ?_) (fun h3 => ?_) <;> try simp (disch := omega) only [go_sem, jA, jB, jC, jD, jE, jF, jG, jH, jI, jJ, ↓reduceIte, reduceCtorEq, jO, jM, jN, jK, jL]
 ·exact bad 6 (by rw [reqS, if_neg (by simp [hc]), if_neg (by simp [h2]), if_pos (.inl h3)])
 refine gd_fd rfl (fun h4 => ?_) (fun h4 => ?_) <;> try simp (disch := omega) only [go_sem, jA, jB, jC, jD, jE, jF, jG, jH, jI, jJ, ↓reduceIte, reduceCtorEq, jO, jM, jN, jK, jL]
 ·exact bad 6 (by rw [reqS, if_neg (by simp [hc]), if_neg (by simp [h2]), if_pos (.inr (.inl h4))])
 refine cond_d (fun h5 => ?_) (fun h5 => ?_) <;> try simp (disch := omega) only [go_sem, jA, jB, jC, jD, jE, jF, jG, jH, jI, jJ, ↓reduceIte, reduceCtorEq, jO, jM, jN, jK, jL]
 ·exact bad 6 (by rw [reqS, if_neg (by simp [hc]), if_neg (by simp [h2]), if_pos (.inr (.inr h5))])
 refine call_pc (ok_ref26_in _ _ _) (by simp [go_sem]) ?_
 cases h6 : inD rel 0 1073741824
 ·try simp (disch := omega) only [go_sem, jA, jB, jC, jD, jE, jF, jG, jH, jI, jJ, ↓reduceIte, reduceCtorEq, jO, jM, jN, jK, jL]
  exact bad 1 (by rw [reqS, if_neg (by simp [hc]), if_neg (by simp [h2]), if_neg (by omega), if_pos h6])
 try simp (disch := omega) only [go_sem, jA, jB, jC, jD, jE, jF, jG, jH, jI, jJ, ↓reduceIte, reduceCtorEq, jO, jM, jN, jK, jL, dkv_2, dkv_1, dvs_length]
 refine gd_fd rfl (fun h7 => ?_) (fun h7 => ?_) <;> try simp (disch := omega) only [go_sem, jA, jB, jC, jD, jE, jF, jG, jH, jI, jJ, ↓reduceIte, reduceCtorEq, jO, jM, jN, jK, jL, dkv_1]
 ·exact bad 10 (by rw [reqS, if_neg (by simp [hc]), if_neg (by simp [h2]), if_neg (by omega), if_neg (by simp [h6]), if_pos (.inl (by omega))])
 refine cond_d (fun h8 => ?_) (fun h8 => ?_) <;> try simp (disch := omega) only [go_sem, jA, jB, jC, jD, jE, jF, jG, jH, jI, jJ, ↓reduceIte, reduceCtorEq, jO, jM, jN, jK, jL]
 ·exact bad 10 (by rw [reqS, if_neg (by simp [hc]), if_neg (by simp [h2]), if_neg (by omega), if_neg (by simp [h6]), if_pos (.inr h8)])
 try simp (disch := omega) only [go_sem, jA, jB, jC, jD, jE, jF, jG, jH, jI, jJ, ↓reduceIte, reduceCtorEq, jO, jM, jN, jK, jL, dkv_flat, dkv_len, dkv_tk, dkv_dt]
 have hS : reqS K site fr to rel = (⟨K.ps, K.nx + 1, K.ds ++ [⟨K.nx, site, fr, to, rel, [], false⟩]⟩, K.nx, 0) := by
  rw [reqS, if_neg (by simp [hc]), if_neg (by simp [h2]), if_neg (by omega), if_neg (by simp [h6]), if_neg (by omega)]
 have hnx := chkD_nx hc
 refine (hc_ref26_Copy _ K (by omega) (by omega) fun d hd => by have := (hB.kd d hd).2.2; omega).mono ?_
 rintro r ⟨ob1, n1, c1⟩ ⟨XP, XA, Fs, l1, rfl, hl1, hl2, hP, hPl, hA, hI, hG, hfr⟩
 simp only at hl1 hl2 hPl hfr
 have u0 := hfr 0 (by omega)
 have u1 := hfr 1 (by omega)
 try simp (disch := omega) only [go_sem, jA, jB, jC, jD, jE, jF, jG, jH, jI, jJ, ↓reduceIte, reduceCtorEq, jO, jM, jN, jK, jL] at u0
 try simp (disch := omega) only [go_sem, jA, jB, jC, jD, jE, jF, jG, jH, jI, jJ, ↓reduceIte, reduceCtorEq, jO, jM, jN, jK, jL] at u1
 try simp (disch := omega) only [go_sem, jA, jB, jC, jD, jE, jF, jG, jH, jI, jJ, ↓reduceIte, reduceCtorEq, jO, jM, jN, jK, jL, u0, u1, hP.flat, hP.cells, hP.one, hA.flat, hA.cells, hA.one, dk_put]
 have hXl : (dvXs K.ds Fs).length ≤ 64 := by simp [dvXs]; omega
 have hFl : Fs.length = K.ds.length := by have := hI.1; simpa [inS] using this
 refine app_slr (b := 72) (hA.move (τ := ⟨_, n1, c1⟩) (Nat.le_refl _) fun i hi hh => ?_) (by omega) (by omega) fun X' τ2 hX2 kX => ?_
 ·have := (hG.low i hh).1
  simp only
  rw [upd_ne _ _ _ _ (by omega)]
 obtain ⟨ob3, m3, c3⟩ := τ2
 have oX : ∀ i, i < l1 → Oth XA i := fun i hi => Oth.em fun h => by have := (hG.low i h).1; omega
 have q0 := kX.2.1 0 (by simp only; omega) (oX 0 (by omega))
 have q1 := kX.2.1 1 (by simp only; omega) (oX 1 (by omega))
 have q2 : ∀ i, 2 ≤ i → i < n1 → Oth XA i → ob3 i = ob1 i := fun i h2 hi ho => (kX.2.1 i hi ho).trans (by simp only; rw [upd_ne _ _ _ _ (by omega)])
 have hn3 : n1 ≤ m3 := kX.1
 try simp (disch := omega) only [go_sem, jA, jB, jC, jD, jE, jF, jG, jH, jI, jJ, ↓reduceIte, reduceCtorEq, jO, jM, jN, jK, jL] at q0
 try simp (disch := omega) only [go_sem, jA, jB, jC, jD, jE, jF, jG, jH, jI, jJ, ↓reduceIte, reduceCtorEq, jO, jM, jN, jK, jL, u1] at q1
 have zm : ∀ (x y z : Option AObj) i, 2 ≤ i → upd (upd (upd ob3 0 x) 0 y) 1 z i = ob3 i := fun x y z i h => by rw [upd_ne _ _ _ _ (by omega), upd_ne _ _ _ _ (by omega), upd_ne _ _ _ _ (by omega)]
 try simp (disch := omega) only [go_sem, jA, jB, jC, jD, jE, jF, jG, jH, jI, jJ, ↓reduceIte, reduceCtorEq, jO, jM, jN, jK, jL, q0, q1, hP.flat, hP.cells, hP.one, hX2.flat, hX2.cells, hX2.one]
 rw [hS]
 have oX2 : ∀ i, i < l1 → Oth X' i := fun i hi => kX.2.2 i (by simp only; omega) (oX i hi)
 have hX3 : SlR 7 tyDv ⟨ob3, m3, c3⟩ (dvXs (K.ds ++ [⟨K.nx, site, fr, to, rel, [], false⟩]) (Fs ++ [.nil])) X' := by rw [dvXs_snoc (by omega)]; exact hX2
 refine Pub.tu (.cons (pub_dk (hP.move hn3 fun i hi hh => ?_) (hX3.move (Nat.le_refl _) fun i hi hh => ?_) ?_) (.cons (by rw [show K.nx + 1 - 1 = K.nx by omega]; exact Pub.e rfl) (.cons (Pub.e rfl) .nil)))
 ·have h9 := hPl i hh
  simp only
  rw [zm _ _ _ i h9.1, q2 i h9.1 hi (oX i h9.2)]
 ·have h9 : 2 ≤ i := Nat.le_of_not_lt fun h => hh (oX2 i (by omega))
  simp only
  rw [zm _ _ _ i h9]
 ·rw [show inS (K.ds ++ [⟨K.nx, site, fr, to, rel, [], false⟩]) = inS K.ds ++ [ints []] by simp [inS]]
  refine IC.snoc (hI.move hn3 fun E hE i hi hlt => ?_) SlR.nil
  have h9 := (hG.loE E hE i hi).1
  simp only
  rw [zm _ _ _ i (by omega), q2 i (by omega) hlt (hG.sep E hE i hi)]
def PnsB (l : List Pn) : Prop := ∀ p ∈ l, 0 ≤ p.id ∧ p.id ≤ 1000 ∧ 0 ≤ p.key ∧ p.key ≤ 1000
theorem hc_flow_People (σ : St) (id g : Nat) (t : List Int) (at' : Nat) (hl : t.length ≤ 9223372036854775807) (hid : id < σ.n) (hob : σ.ob id = some ⟨g, 2, ty_Deck, false, true, [deckV t at']⟩) :
  HC prog n_flow_People [.ptr id g 2 0 0] σ (DeckR σ id g t fun r => ∃ l, r = .list 3 (pns l) ∧ l.length ≤ 5 ∧ PnsB l) := by
 refine HC.deck hid ?_
 obtain ⟨ob0, n0, c0⟩ := σ
 simp only at hob hid
 refine HC_of_body b_flow_People (by simp) ?_
 simp only [c_flow_People]
 try simp (disch := omega) only [go_sem, jA, jB, jC, jD, jE, jF, jG, jH, jI, jJ, ↓reduceIte, reduceCtorEq, jO, jM, jN, jK, jL]
 refine call_hc (ok_mk_Deck_Next _ id g ty_Deck true t at' 5 (by exact hob) (by omega) hl) ?_
 have hx1 := deckR_bd t at' 5
 generalize deckR t at' 5 = dr at *
 obtain ⟨x0, at0⟩ := dr
 simp only at hx1
 try simp (disch := omega) only [go_sem, jA, jB, jC, jD, jE, jF, jG, jH, jI, jJ, ↓reduceIte, reduceCtorEq, jO, jM, jN, jK, jL]
 obtain ⟨K, hK⟩ : ∃ K : Nat, (K : Int) = x0 ∧ K ≤ 4 := ⟨x0.toNat, by omega, by omega⟩
 obtain ⟨rfl, hK⟩ := hK
 refine awp_upG [3, 4, 5, 8, 9, 10, 11, 12, 13, 14, 15, 16, 17, 18, 19, 20, 21, 22, 23, 24, 25, 26, 27] (by kernel_rfl) (K + 1) (fun k e σ => e 5 = .int .i64 ((K : Int) - k) ∧ n0 ≤ σ.n ∧ (∃ a, σ.ob id = some ⟨g, 2, ty_Deck, false, true, [deckV t a]⟩) ∧ (∀ i, i < n0 → i ≠ id → σ.ob i = ob0 i) ∧ (∃ y, e 4 = .int .i64 y ∧ 0 ≤ y ∧ y ≤ 3 * k) ∧
   ∃ l X, At e 3 X ∧ l.length = k ∧ PnsB l ∧ SlR 3 132 σ (pns l) X ∧ ∀ i, i < n0 → Oth X i) ?_ ?_
 ·exact ⟨(by first | rfl | (simp (disch := omega) only [go_sem, jA, jB, jC, jD, jE, jF, jG, jH, jI, jJ, ↓reduceIte, reduceCtorEq, jP, jO, jM, jN]; try rfl)), Nat.le_refl _, ⟨at0, by try simp (disch := omega) only [go_sem, jA, jB, jC, jD, jE, jF, jG, jH, jI, jJ, ↓reduceIte, reduceCtorEq, jO, jM, jN, jK, jL]⟩, fun i hi hne => by simp only; rw [upd_ne _ _ _ _ hne], ⟨0, (by first | rfl | (simp (disch := omega) only [go_sem, jA, jB, jC, jD, jE, jF, jG, jH, jI, jJ, ↓reduceIte, reduceCtorEq, jP, jO, jM, jN]; try rfl)), by omega, by omega⟩, [], .nil, (by simp only [At]; try simp (disch := omega) only [go_sem, jA, jB, jC, jD, jE, jF, jG, jH, jI, jJ, ↓reduceIte, reduceCtorEq, jO, jM, jN, jK, jL]), rfl, fun p hp => by simp at hp, SlR.nil, fun i _ => Oth.nil i⟩
 rintro k fe ob m c hk hm ⟨h5, hm1, ⟨at3, hd⟩, hfr, ⟨y, h4, y0, y1⟩, l, X, h3, hll, hB, hX, ho⟩
 simp (maxSteps := 1000000) only [go_sem, jA, jB, jC, jD, jE, jF, jG, jH, jI, jJ, ↓reduceIte, reduceCtorEq, jP, At] at h5 hm hm1 hd hfr h4 h3
 try simp (disch := omega) only [go_sem, jA, jB, jC, jD, jE, jF, jG, jH, jI, jJ, ↓reduceIte, reduceCtorEq, jO, jM, jN, jK, jL, h5]
 refine cond_d (fun hge => ?_) (fun hlt => ?_)
 ·have hkl : k < K + 1 := by omega
  try simp (disch := omega) only [go_sem, jA, jB, jC, jD, jE, jF, jG, jH, jI, jJ, ↓reduceIte, reduceCtorEq, jO, jM, jN, jK, jL]
  refine call_hc (ok_mk_Deck_Next _ id g ty_Deck true t at3 3 (by exact hd) (by omega) hl) ?_
  have hx2 := deckR_bd t at3 3
  generalize deckR t at3 3 = dr at *
  obtain ⟨x2, at4⟩ := dr
  simp only at hx2
  try simp (disch := omega) only [go_sem, jA, jB, jC, jD, jE, jF, jG, jH, jI, jJ, ↓reduceIte, reduceCtorEq, jO, jM, jN, jK, jL, h4, h3]
  refine call_hc (ok_mk_Deck_Next _ id g ty_Deck true t at4 3 (by try simp (disch := omega) only [go_sem, jA, jB, jC, jD, jE, jF, jG, jH, jI, jJ, ↓reduceIte, reduceCtorEq, jO, jM, jN, jK, jL]) (by omega) hl) ?_
  have hx3 := deckR_bd t at4 3
  generalize deckR t at4 3 = dr at *
  obtain ⟨x3, at5⟩ := dr
  simp only at hx3
  try simp (disch := omega) only [go_sem, jA, jB, jC, jD, jE, jF, jG, jH, jI, jJ, ↓reduceIte, reduceCtorEq, jO, jM, jN, jK, jL]
  refine call_hc (ok_mk_Deck_Next _ id g ty_Deck true t at5 1000 (by try simp (disch := omega) only [go_sem, jA, jB, jC, jD, jE, jF, jG, jH, jI, jJ, ↓reduceIte, reduceCtorEq, jO, jM, jN, jK, jL]) (by omega) hl) ?_
  have hx4 := deckR_bd t at5 1000
  generalize deckR t at5 1000 = dr at *
  obtain ⟨x4, at6⟩ := dr
  simp only at hx4
  try simp (disch := omega) only [go_sem, jA, jB, jC, jD, jE, jF, jG, jH, jI, jJ, ↓reduceIte, reduceCtorEq, jO, jM, jN, jK, jL, upd_upd]
  refine app_slr (b := 24) (hX.move (by exact Nat.le_refl _) fun i hi hno => ?_) (by rw [pns_length]; omega) (by rw [pns_length]; omega) fun Y τ5 hR5 hK5 => ?_
  ·simp only
   rw [upd_ne _ _ _ _ fun e => hno (by rw [e]; exact ho id hid)]
  obtain ⟨ob5, m5, c5⟩ := τ5
  have hn5 : m ≤ m5 := hK5.1
  have f5 : ∀ i, i < n0 → i ≠ id → ob5 i = ob i := fun i hi hne => (hK5.2.1 i (by simp only; omega) (ho i hi)).trans (upd_ne _ _ _ _ hne)
  have d5 := (hK5.2.1 id (by simp only; omega) (ho id hid)).trans (upd_same _ _ _)
  try simp (disch := omega) only [go_sem, jA, jB, jC, jD, jE, jF, jG, jH, jI, jJ, ↓reduceIte, reduceCtorEq, jO, jM, jN, jK, jL, h5]
  refine up_nextG m5 hkl (by omega) ⟨by try simp (disch := omega) only [go_sem, jA, jB, jC, jD, jE, jF, jG, jH, jI, jJ, ↓reduceIte, reduceCtorEq, jO, jM, jN, jK, jL]; congr 1; omega, by simp only [St.trunc]; omega, ⟨at6, by rw [tr_ob (by omega)]; exact d5⟩, fun i hi hne => by rw [tr_ob (by omega), f5 i hi hne]; exact hfr i hi hne, ⟨y + (1 + x2), (by first | rfl | (simp (disch := omega) only [go_sem, jA, jB, jC, jD, jE, jF, jG, jH, jI, jJ, ↓reduceIte, reduceCtorEq, jP, jO, jM, jN]; try rfl)), by omega, by omega⟩,
   l ++ [⟨y + (1 + x2), 1 + x3, 1 + x4⟩], Y, (by simp only [At]; try simp (disch := omega) only [go_sem, jA, jB, jC, jD, jE, jF, jG, jH, jI, jJ, ↓reduceIte, reduceCtorEq, jO, jM, jN, jK, jL]), by simp [hll], fun p hp => ?_, ?_, fun i hi => hK5.2.2 i (by simp only; omega) (ho i hi)⟩
  ·rcases List.mem_append.1 hp with hp | hp
   ·exact hB p hp
   ·obtain rfl : p = _ := by simpa using hp
    simp only; omega
  ·rw [show pns (l ++ [⟨y + (1 + x2), 1 + x3, 1 + x4⟩]) = pns l ++ [.agg [.int .i64 (y + (1 + x2)), .int .i64 (1 + x3), .int .i64 (1 + x4)]] by simp [pns, pnv]]
   exact hR5.tr
 obtain rfl : k = K + 1 := by omega
 try simp (disch := omega) only [go_sem, jA, jB, jC, jD, jE, jF, jG, jH, jI, jJ, ↓reduceIte, reduceCtorEq, jO, jM, jN, jK, jL, h3]
 refine ⟨.list 3 (pns l), at3, ?_, ⟨l, rfl, by omega, hB⟩, hd, hfr⟩
 exact hX.pub (fun i hi hh => by simp only; rw [if_neg fun h => hh (ho i h)]) (pns_pur _) (pns_ok _)
def SgB (r : AV) : Prop := ∃ a b c, r = .tuple [.int .i64 a, .int .i64 b, .int .i64 c] ∧ 0 ≤ a ∧ a ≤ 1073741824 ∧ 0 ≤ b ∧ b ≤ 1073741824 ∧ 0 ≤ c ∧ c ≤ 4294967296
theorem codeL_bd : ∀ (l : List Int) (c : Int), 0 ≤ c → c ≤ 2147483647 → 0 ≤ codeL c l ∧ codeL c l ≤ 2147483647
 | [], c, h0, h1 => ⟨h0, h1⟩
 | n :: l, c, h0, h1 => by
  have b1 := tmod_bdP n
  have b2 := tmod_bd0 (n.tmod 2147483647 + 2147483647) (by omega)
  have b3 := tmod_bd0 (31 * c + (n.tmod 2147483647 + 2147483647).tmod 2147483647) (by omega)
  rw [codeL]
  exact codeL_bd l _ b3.1 (by omega)
theorem codeS_bd (key kind : Int) (d : Dv) : 0 ≤ codeS key kind d ∧ codeS key kind d ≤ 2147483647 := codeL_bd _ 7 (by omega) (by omega)
theorem hc_flow_Signed (σ : St) (id g : Nat) (t : List Int) (at' : Nat) (K : Dk) (hB : DkB K) (now : Int) (hl : t.length ≤ 9223372036854775807) (hid : id < σ.n) (hob : σ.ob id = some ⟨g, 2, ty_Deck, false, true, [deckV t at']⟩) :
  HC prog n_flow_Signed [.ptr id g 2 0 0, dkv K, .int .i64 now] σ (DeckR σ id g t SgB) := by
 refine HC.deck hid ?_
 obtain ⟨ob0, n0, c0⟩ := σ
 simp only at hob hid
 refine HC_of_body b_flow_Signed (by simp) ?_
 simp only [c_flow_Signed]
 have z0 : ¬ id = n0 := by omega
 have z1 : ¬ n0 = id := by omega
 try simp (disch := omega) only [go_sem, jA, jB, jC, jD, jE, jF, jG, jH, jI, jJ, ↓reduceIte, reduceCtorEq, jO, jM, jN, jK, jL, dkv_flat, dkv_len, dkv_2, dkv_0, pns_length, dvs_length]
 have hlp := hB.lp
 have hld := hB.ld
 have fin : ∀ (ob' : Nat → Option AObj) (c' m' : Nat) (a b c : Int) (at2 : Nat), ob' id = some ⟨g, 2, ty_Deck, false, true, [deckV t at2]⟩ → (∀ i, i < n0 → i ≠ id → ob' i = ob0 i) → (0 ≤ a ∧ a ≤ 1073741824 ∧ 0 ≤ b ∧ b ≤ 1073741824 ∧ 0 ≤ c ∧ c ≤ 4294967296) →
   Deck0 ⟨ob0, n0, c0⟩ id g t SgB (.tuple [.int .i64 a, .int .i64 b, .int .i64 c]) ⟨ob', m', c'⟩ := fun ob' c' m' a b c at2 h1 h2 h3 => ⟨_, at2, .pure rfl, ⟨a, b, c, rfl, h3⟩, h1, h2⟩
 refine gd_fd rfl (fun g1 => ?_) (fun g1 => ?_) <;> try simp (disch := omega) only [go_sem, jA, jB, jC, jD, jE, jF, jG, jH, jI, jJ, ↓reduceIte, reduceCtorEq, jO, jM, jN, jK, jL, dkv_0, pns_length]
 ·refine call_hc (ok_mk_Deck_Next _ id g ty_Deck true t at' 3 (by try simp (disch := omega) only [go_sem, jA, jB, jC, jD, jE, jF, jG, jH, jI, jJ, ↓reduceIte, reduceCtorEq, jO, jM, jN, jK, jL, z0]; exact hob) (by omega) hl) ?_
  have hx1 := deckR_bd t at' 3
  generalize deckR t at' 3 = dr at *
  obtain ⟨x1, at1⟩ := dr
  simp only at hx1
  try simp (disch := omega) only [go_sem, jA, jB, jC, jD, jE, jF, jG, jH, jI, jJ, ↓reduceIte, reduceCtorEq, jO, jM, jN, jK, jL, z0, z1]
  refine call_hc (ok_mk_Deck_Next _ id g ty_Deck true t at1 3 (by try simp (disch := omega) only [go_sem, jA, jB, jC, jD, jE, jF, jG, jH, jI, jJ, ↓reduceIte, reduceCtorEq, jO, jM, jN, jK, jL]) (by omega) hl) ?_
  have hx2 := deckR_bd t at1 3
  generalize deckR t at1 3 = dr at *
  obtain ⟨x2, at2⟩ := dr
  simp only at hx2
  try simp (disch := omega) only [go_sem, jA, jB, jC, jD, jE, jF, jG, jH, jI, jJ, ↓reduceIte, reduceCtorEq, jO, jM, jN, jK, jL, z0, z1]
  refine call_hc (ok_mk_Deck_Next _ id g ty_Deck true t at2 100 (by try simp (disch := omega) only [go_sem, jA, jB, jC, jD, jE, jF, jG, jH, jI, jJ, ↓reduceIte, reduceCtorEq, jO, jM, jN, jK, jL]) (by omega) hl) ?_
  have hx3 := deckR_bd t at2 100
  generalize deckR t at2 100 = dr at *
  obtain ⟨x3, at3⟩ := dr
  simp only at hx3
  try simp (disch := omega) only [go_sem, jA, jB, jC, jD, jE, jF, jG, jH, jI, jJ, ↓reduceIte, reduceCtorEq, jO, jM, jN, jK, jL, z0, z1]
  exact fin _ _ _ _ _ _ at3 (by try simp (disch := omega) only [go_sem, jA, jB, jC, jD, jE, jF, jG, jH, jI, jJ, ↓reduceIte, reduceCtorEq, jO, jM, jN, jK, jL]) (fun i hi hne => by
   have j0 : ¬ i = n0 := by omega
   try simp (disch := omega) only [go_sem, jA, jB, jC, jD, jE, jF, jG, jH, jI, jJ, ↓reduceIte, reduceCtorEq, jO, jM, jN, jK, jL, j0, hne]) (by omega)
 refine cond_d (fun g2 => ?_) (fun g2 => ?_) <;> try simp (disch := omega) only [go_sem, jA, jB, jC, jD, jE, jF, jG, jH, jI, jJ, ↓reduceIte, reduceCtorEq, jO, jM, jN, jK, jL]
 ·refine call_hc (ok_mk_Deck_Next _ id g ty_Deck true t at' 3 (by try simp (disch := omega) only [go_sem, jA, jB, jC, jD, jE, jF, jG, jH, jI, jJ, ↓reduceIte, reduceCtorEq, jO, jM, jN, jK, jL, z0]; exact hob) (by omega) hl) ?_
  have hx1 := deckR_bd t at' 3
  generalize deckR t at' 3 = dr at *
  obtain ⟨x1, at1⟩ := dr
  simp only at hx1
  try simp (disch := omega) only [go_sem, jA, jB, jC, jD, jE, jF, jG, jH, jI, jJ, ↓reduceIte, reduceCtorEq, jO, jM, jN, jK, jL, z0, z1]
  refine call_hc (ok_mk_Deck_Next _ id g ty_Deck true t at1 3 (by try simp (disch := omega) only [go_sem, jA, jB, jC, jD, jE, jF, jG, jH, jI, jJ, ↓reduceIte, reduceCtorEq, jO, jM, jN, jK, jL]) (by omega) hl) ?_
  have hx2 := deckR_bd t at1 3
  generalize deckR t at1 3 = dr at *
  obtain ⟨x2, at2⟩ := dr
  simp only at hx2
  try simp (disch := omega) only [go_sem, jA, jB, jC, jD, jE, jF, jG, jH, jI, jJ, ↓reduceIte, reduceCtorEq, jO, jM, jN, jK, jL, z0, z1]
  refine call_hc (ok_mk_Deck_Next _ id g ty_Deck true t at2 100 (by try simp (disch := omega) only [go_sem, jA, jB, jC, jD, jE, jF, jG, jH, jI, jJ, ↓reduceIte, reduceCtorEq, jO, jM, jN, jK, jL]) (by omega) hl) ?_
  have hx3 := deckR_bd t at2 100
  generalize deckR t at2 100 = dr at *
  obtain ⟨x3, at3⟩ := dr
  simp only at hx3
  try simp (disch := omega) only [go_sem, jA, jB, jC, jD, jE, jF, jG, jH, jI, jJ, ↓reduceIte, reduceCtorEq, jO, jM, jN, jK, jL, z0, z1]
  exact fin _ _ _ _ _ _ at3 (by try simp (disch := omega) only [go_sem, jA, jB, jC, jD, jE, jF, jG, jH, jI, jJ, ↓reduceIte, reduceCtorEq, jO, jM, jN, jK, jL]) (fun i hi hne => by
   have j0 : ¬ i = n0 := by omega
   try simp (disch := omega) only [go_sem, jA, jB, jC, jD, jE, jF, jG, jH, jI, jJ, ↓reduceIte, reduceCtorEq, jO, jM, jN, jK, jL, j0, hne]) (by omega)
 try simp (disch := omega) only [go_sem, jA, jB, jC, jD, jE, jF, jG, jH, jI, jJ, ↓reduceIte, reduceCtorEq, jO, jM, jN, jK, jL, z0, z1, dkv_2, dkv_0, pns_length, dvs_length]
 refine call_hc (ok_mk_Deck_Next _ id g ty_Deck true t at' K.ds.length (by try simp (disch := omega) only [go_sem, jA, jB, jC, jD, jE, jF, jG, jH, jI, jJ, ↓reduceIte, reduceCtorEq, jO, jM, jN, jK, jL, z0]; exact hob) (by omega) hl) ?_
 have hx1 := deckR_bd t at' K.ds.length
 generalize deckR t at' K.ds.length = dr at *
 obtain ⟨x1, at1⟩ := dr
 simp only at hx1
 obtain ⟨i1, hi1⟩ : ∃ i1 : Nat, (i1 : Int) = x1 ∧ i1 < K.ds.length := ⟨x1.toNat, by omega, by omega⟩
 obtain ⟨rfl, hi1⟩ := hi1
 have hg1 := gD_get hi1
 have hd1 := gD_kd hB i1
 generalize gD K.ds i1 = d at *
 try simp (disch := omega) only [go_sem, jA, jB, jC, jD, jE, jF, jG, jH, jI, jJ, ↓reduceIte, reduceCtorEq, jO, jM, jN, jK, jL, z0, z1, dvs_length, dvs_get, hg1, Option.map_some, dv0_fold, dvv_put, dvv_flat, dvv_len, dvv_tk, dvv_dt, dvv_ct, dvv_ca, dvv_one, dkv_2, dkv_0, pns_length]
 have z2 : ¬ n0 + 1 = id := by omega
 have z3 : ¬ id = n0 + 1 := by omega
 refine ⟨by omega, by omega, ?_⟩
 refine call_hc (ok_mk_Deck_Next _ id g ty_Deck true t at1 K.ps.length (by try simp (disch := omega) only [go_sem, jA, jB, jC, jD, jE, jF, jG, jH, jI, jJ, ↓reduceIte, reduceCtorEq, jO, jM, jN, jK, jL, z3]) (by omega) hl) ?_
 have hx2 := deckR_bd t at1 K.ps.length
 generalize deckR t at1 K.ps.length = dr at *
 obtain ⟨x2, at2⟩ := dr
 simp only at hx2
 obtain ⟨i2, hi2⟩ : ∃ i2 : Nat, (i2 : Int) = x2 ∧ i2 < K.ps.length := ⟨x2.toNat, by omega, by omega⟩
 obtain ⟨rfl, hi2⟩ := hi2
 have hg2 := gP_get hi2
 have hd2 := hB.ip _ (List.mem_of_getElem? hg2)
 generalize gP K.ps i2 = p at *
 try simp (disch := omega) only [go_sem, jA, jB, jC, jD, jE, jF, jG, jH, jI, jJ, ↓reduceIte, reduceCtorEq, jO, jM, jN, jK, jL, z0, z1, z2, z3, pns_length, pns_get, hg2, Option.map_some, pnv, dvv_flat, dvv_len, dvv_tk, dvv_dt]
 refine ⟨by omega, by omega, ?_⟩
 refine call_pc (ok_ref26_Code p.key 1 d) (by simp [dvv_pur, go_sem]) ?_
 have cb1 := codeS_bd p.key 1 d
 have cb2 := codeS_bd p.key 2 d
 have z4 : ¬ n0 + 1 + 1 = id := by omega
 have z5 : ¬ id = n0 + 1 + 1 := by omega
 try simp (disch := omega) only [go_sem, jA, jB, jC, jD, jE, jF, jG, jH, jI, jJ, ↓reduceIte, reduceCtorEq, jO, jM, jN, jK, jL, z0, z1, z2, z3, z4, z5]
 refine call_hc (ok_mk_Deck_Next _ id g ty_Deck true t at2 8 (by try simp (disch := omega) only [go_sem, jA, jB, jC, jD, jE, jF, jG, jH, jI, jJ, ↓reduceIte, reduceCtorEq, jO, jM, jN, jK, jL, z3, z5]) (by omega) hl) ?_
 generalize deckR t at2 8 = dr at *
 obtain ⟨x3, at3⟩ := dr
 try simp (disch := omega) only [go_sem, jA, jB, jC, jD, jE, jF, jG, jH, jI, jJ, ↓reduceIte, reduceCtorEq, jO, jM, jN, jK, jL, z0, z1, z2, z3, z4, z5]
 refine cond_d (fun g3 => ?_) (fun g3 => ?_)
 ·try simp (disch := omega) only [go_sem, jA, jB, jC, jD, jE, jF, jG, jH, jI, jJ, ↓reduceIte, reduceCtorEq, jO, jM, jN, jK, jL, z0, z1, z2, z3, z4, z5, dvv_flat, dvv_len, dvv_tk, dvv_dt]
  refine call_pc (ok_ref26_Code p.key 2 d) (by simp [dvv_pur, go_sem]) ?_
  try simp (disch := omega) only [go_sem, jA, jB, jC, jD, jE, jF, jG, jH, jI, jJ, ↓reduceIte, reduceCtorEq, jO, jM, jN, jK, jL, z0, z1, z2, z3, z4, z5, dvv_0]
  exact fin _ _ _ _ _ _ at3 (by try simp (disch := omega) only [go_sem, jA, jB, jC, jD, jE, jF, jG, jH, jI, jJ, ↓reduceIte, reduceCtorEq, jO, jM, jN, jK, jL, z3, z5]) (fun i hi hne => by
   have j0 : ¬ i = n0 := by omega
   have j1 : ¬ i = n0 + 1 := by omega
   have j2 : ¬ i = n0 + 1 + 1 := by omega
   try simp (disch := omega) only [go_sem, jA, jB, jC, jD, jE, jF, jG, jH, jI, jJ, ↓reduceIte, reduceCtorEq, jO, jM, jN, jK, jL, j0, j1, j2, hne]) (by omega)
 try simp (disch := omega) only [go_sem, jA, jB, jC, jD, jE, jF, jG, jH, jI, jJ, ↓reduceIte, reduceCtorEq, jO, jM, jN, jK, jL]
 refine cond_d (fun g4 => ?_) (fun g4 => ?_)
 ·try simp (disch := omega) only [go_sem, jA, jB, jC, jD, jE, jF, jG, jH, jI, jJ, ↓reduceIte, reduceCtorEq, jO, jM, jN, jK, jL, z0, z1, z2, z3, z4, z5, dvv_0]
  exact fin _ _ _ _ _ _ at3 (by try simp (disch := omega) only [go_sem, jA, jB, jC, jD, jE, jF, jG, jH, jI, jJ, ↓reduceIte, reduceCtorEq, jO, jM, jN, jK, jL, z3, z5]) (fun i hi hne => by
   have j0 : ¬ i = n0 := by omega
   have j1 : ¬ i = n0 + 1 := by omega
   have j2 : ¬ i = n0 + 1 + 1 := by omega
   try simp (disch := omega) only [go_sem, jA, jB, jC, jD, jE, jF, jG, jH, jI, jJ, ↓reduceIte, reduceCtorEq, jO, jM, jN, jK, jL, j0, j1, j2, hne]) (by omega)
 try simp (disch := omega) only [go_sem, jA, jB, jC, jD, jE, jF, jG, jH, jI, jJ, ↓reduceIte, reduceCtorEq, jO, jM, jN, jK, jL, z0, z1, z2, z3, z4, z5, dvv_0]
 exact fin _ _ _ _ _ _ at3 (by try simp (disch := omega) only [go_sem, jA, jB, jC, jD, jE, jF, jG, jH, jI, jJ, ↓reduceIte, reduceCtorEq, jO, jM, jN, jK, jL, z3, z5]) (fun i hi hne => by
   have j0 : ¬ i = n0 := by omega
   have j1 : ¬ i = n0 + 1 := by omega
   have j2 : ¬ i = n0 + 1 + 1 := by omega
   try simp (disch := omega) only [go_sem, jA, jB, jC, jD, jE, jF, jG, jH, jI, jJ, ↓reduceIte, reduceCtorEq, jO, jM, jN, jK, jL, j0, j1, j2, hne]) (by omega)
theorem dvXs_get {ds : List Dv} {Fs : List AV} {i : Nat} {d : Dv} {E : AV} (h1 : ds[i]? = some d) (h2 : Fs[i]? = some E) : (dvXs ds Fs)[i]? = some (dvX d E) := by simp [dvXs, List.getElem?_zipWith, h1, h2]
theorem zip_set {α β γ : Type} (f : α → β → γ) : ∀ (l : List α) (r : List β) (i : Nat) (a : α) (b : β), (List.zipWith f l r).set i (f a b) = List.zipWith f (l.set i a) (r.set i b)
 | [], _, _, _, _ => by simp
 | _ :: _, [], i, _, _ => by cases i <;> simp
 | x :: l, y :: r, 0, a, b => rfl
 | x :: l, y :: r, i + 1, a, b => by simp [zip_set f l r i a b]
theorem set_same {α : Type} {l : List α} {i : Nat} {a : α} (h : l[i]? = some a) : l.set i a = l := by
 apply List.ext_getElem?
 intro j
 by_cases e : i = j
 ·subst e; rw [h, List.getElem?_set_self (List.getElem?_eq_some_iff.1 h).1]
 ·rw [List.getElem?_set_ne e]
theorem askG_ok (K : Dk) (id who code now kind : Int) : ∀ (l : List Dv) (i : Nat), (askG K id who code now kind l i).2.2 = 0 → ∃ j : Nat, (askG K id who code now kind l i).1 = j ∧ j < i + l.length
 | [], i, h => by simp [askG] at h
 | d :: l, i, h => by
  rw [askG] at h ⊢
  split at h
  ·rename_i h1
   rw [if_pos h1]
   obtain ⟨j, h2, h3⟩ := askG_ok K id who code now kind l (i + 1) h
   exact ⟨j, h2, by simp; omega⟩
  ·rename_i h1
   rw [if_neg h1]
   split at h
   ·simp at h
   ·rename_i h2
    rw [if_neg h2]
    split at h
    ·simp at h
    ·rename_i h3
     rw [if_neg h3]
     split at h
     ·simp at h
     ·rename_i h4
      rw [if_neg h4]
      exact ⟨i, rfl, by simp⟩
theorem askS_ok {K : Dk} {id who code now kind : Int} (h : (askS K id who code now kind).2.2 = 0) : ∃ j : Nat, (askS K id who code now kind).1 = j ∧ j < K.ds.length := by
 unfold askS at h ⊢
 split at h
 ·simp at h
 ·rename_i h1
  rw [if_neg h1]
  obtain ⟨j, h2, h3⟩ := askG_ok K id who code now kind K.ds 0 h
  exact ⟨j, h2, by omega⟩
theorem IC.set {es : Nat} {ty : TypeId} {σ τ : St} {Es : List AV} {Ls : List (List AV)} {j : Nat} {E' : AV} {L' : List AV} (h : IC es ty σ Es Ls) (hj : SlR es ty τ L' E') (ho : ∀ (i : Nat) (E : AV) (L : List AV), i ≠ j → Es[i]? = some E → Ls[i]? = some L → SlR es ty τ L E) : IC es ty τ (Es.set j E') (Ls.set j L') := by
 refine ⟨by simp [h.1], fun i E L hE hL => ?_⟩
 by_cases e : i = j
 ·subst e
  rw [List.getElem?_set_self' ] at hE hL
  cases h1 : Es[i]? <;> simp [h1] at hE
  cases h2 : Ls[i]? <;> simp [h2] at hL
  subst hE; subst hL
  exact hj
 ·rw [List.getElem?_set_ne (Ne.symm e)] at hE hL
  exact ho i E L e hE hL
theorem SlR.lenC {es : Nat} {ty : TypeId} {σ τ : St} {L : List AV} {X : AV} (h : SlR es ty σ L X) {K : AV → St → Prop} (k : K (.int .i64 L.length) τ) : lenC X τ K := by
 rcases h with ⟨rfl, rfl⟩ | ⟨id, g, rfl, _, _⟩
 ·simpa [Ab.lenC] using k
 ·simpa [Ab.lenC] using k
theorem ok_ref26_Withdraw (K : Dk) (hB : DkB K) (id who code now : Int) : PC prog n_ref26_Withdraw [dkv K, .int .i64 id, .int .i64 who, .int .i64 code, .int .i64 now] (.tuple [dkv (wdrS K id who code now).1, .int .i64 (wdrS K id who code now).2]) := by
 have hlp := hB.lp
 have hld := hB.ld
 have hKp := dkv_pur K
 have hS0 : wdrS K id who code now = if (askS K id who code now 2).2.2 ≠ 0 then (dk0, (askS K id who code now 2).2.2) else (⟨K.ps, K.nx, K.ds.set (askS K id who code now 2).1.toNat { gD K.ds (askS K id who code now 2).1.toNat with wd := true }⟩, 0) := rfl
 refine PC_of_body b_ref26_Withdraw (by simp) ?_
 simp only [c_ref26_Withdraw]
 try simp (disch := omega) only [go_sem, jA, jB, jC, jD, jE, jF, jG, jH, jI, jJ, ↓reduceIte, reduceCtorEq, jO, jM, jN, jK, jL, dkv_flat, dkv_len, dkv_tk, dkv_dt]
 refine call_pc (ok_ref26_ask K id who code now 2 (by omega) (by omega)) (by simp [hKp, go_sem]) ?_
 have hok := @askS_ok K id who code now 2
 generalize askS K id who code now 2 = a at *
 obtain ⟨i, p, e⟩ := a
 simp only at hok hS0
 try simp (disch := omega) only [go_sem, jA, jB, jC, jD, jE, jF, jG, jH, jI, jJ, ↓reduceIte, reduceCtorEq, jO, jM, jN, jK, jL, pnv]
 refine cond_n (fun h1 => ?_) (fun h1 => ?_)
 ·try simp (disch := omega) only [go_sem, jA, jB, jC, jD, jE, jF, jG, jH, jI, jJ, ↓reduceIte, reduceCtorEq, jO, jM, jN, jK, jL]
  rw [hS0, if_pos h1]
  exact Pub.tu (.cons pub_dk0 (.cons (Pub.e rfl) .nil))
 obtain rfl : e = 0 := by simpa using h1
 rw [if_neg (by simp)] at hS0
 obtain ⟨j, rfl, hj⟩ := hok rfl
 rw [Int.toNat_natCast] at hS0
 have hg := gD_get hj
 generalize gD K.ds j = d at *
 try simp (disch := omega) only [go_sem, jA, jB, jC, jD, jE, jF, jG, jH, jI, jJ, ↓reduceIte, reduceCtorEq, jO, jM, jN, jK, jL, dkv_flat, dkv_len, dkv_tk, dkv_dt]
 refine (hc_ref26_Copy _ K (by omega) (by omega) fun d hd => by have := (hB.kd d hd).2.2; omega).mono ?_
 rintro r ⟨ob1, n1, c1⟩ ⟨XP, XA, Fs, l1, rfl, hl1, hl2, hP, hPl, hA, hI, hG, hfr⟩
 simp only at hl1 hl2 hPl hfr
 have u0 := hfr 0 (by omega)
 have u1 := hfr 1 (by omega)
 have u2 := hfr 2 (by omega)
 try simp (disch := omega) only [go_sem, jA, jB, jC, jD, jE, jF, jG, jH, jI, jJ, ↓reduceIte, reduceCtorEq, jO, jM, jN, jK, jL] at u0
 try simp (disch := omega) only [go_sem, jA, jB, jC, jD, jE, jF, jG, jH, jI, jJ, ↓reduceIte, reduceCtorEq, jO, jM, jN, jK, jL] at u1
 try simp (disch := omega) only [go_sem, jA, jB, jC, jD, jE, jF, jG, jH, jI, jJ, ↓reduceIte, reduceCtorEq, jO, jM, jN, jK, jL] at u2
 have hFl : Fs.length = K.ds.length := by have := hI.1; simpa [inS] using this
 have hFg : Fs[j]? = some Fs[j] := List.getElem?_eq_getElem (by omega)
 generalize Fs[j] = E at *
 have hxg := dvXs_get hg hFg
 have hXl : (dvXs K.ds Fs).length = K.ds.length := by simp [dvXs]; omega
 rcases hA with ⟨_, h0⟩ | ⟨ia, ga, rfl, hia, hoa⟩
 ·rw [h0] at hXl; simp at hXl; omega
 simp only at hia hoa
 have hal : l1 ≤ ia := (hG.low ia fun h => h _ _ _ _ rfl).1
 try simp (disch := omega) only [go_sem, jA, jB, jC, jD, jE, jF, jG, jH, jI, jJ, ↓reduceIte, reduceCtorEq, jO, jM, jN, jK, jL, u0, u1, u2, hP.flat, hP.cells, hP.one, dk_put, hoa, hxg, hXl]
 refine ⟨by omega, by omega, ?_⟩
 rw [hS0]
 have hW : setc 6 (.bool true) (dvX d E) = dvX { d with wd := true } E := rfl
 have hD : (dvXs K.ds Fs).set j (dvX { d with wd := true } E) = dvXs (K.ds.set j { d with wd := true }) Fs := by
  rw [dvXs, zip_set dvX, set_same hFg]; rfl
 have hIn : inS (K.ds.set j { d with wd := true }) = inS K.ds := by
  have h9 : (inS K.ds)[j]? = some (ints d.sg) := by simp [inS, hg]
  rw [inS, List.map_set]
  exact set_same h9
 have hlen : (dvXs (K.ds.set j { d with wd := true }) Fs).length = K.ds.length := by simp [dvXs]; omega
 rw [hW, hD]
 refine Pub.tu (.cons (pub_dk (Fs := Fs) (hP.move (Nat.le_refl _) fun i hi hh => ?_) (.inr ⟨ia, ga, by rw [hlen], hia, ?_⟩) ?_) (.cons (Pub.e rfl) .nil))
 ·have h9 := hPl i hh
  simp only
  rw [upd_ne _ _ _ _ (by omega), upd_ne _ _ _ _ (by omega), upd_ne _ _ _ _ (by omega)]
 ·simp only
  rw [upd_ne _ _ _ _ (by omega), upd_same]
 ·rw [hIn]
  refine hI.move (Nat.le_refl _) fun F hF i hi hlt => ?_
  have h9 := (hG.loE F hF i hi).1
  have h8 : ¬ i = ia := fun h => Oth.ne (hG.sep F hF i hi) h.symm
  simp only
  rw [upd_ne _ _ _ _ (by omega), upd_ne _ _ _ _ h8, upd_ne _ _ _ _ (by omega)]
theorem ok_ref26_Sign (K : Dk) (hB : DkB K) (id who code now : Int) : PC prog n_ref26_Sign [dkv K, .int .i64 id, .int .i64 who, .int .i64 code, .int .i64 now] (.tuple [dkv (sgnS K id who code now).1, .int .i64 (sgnS K id who code now).2]) := by
 have hlp := hB.lp
 have hld := hB.ld
 have hKp := dkv_pur K
 have hS0 : sgnS K id who code now = if (askS K id who code now 1).2.2 ≠ 0 then (dk0, (askS K id who code now 1).2.2) else
  if (gD K.ds (askS K id who code now 1).1.toNat).sg.length = 2 then (dk0, 46) else if sgnE K who (askS K id who code now 1).2.1.role (gD K.ds (askS K id who code now 1).1.toNat).sg ≠ 0 then (dk0, sgnE K who (askS K id who code now 1).2.1.role (gD K.ds (askS K id who code now 1).1.toNat).sg) else
  (⟨K.ps, K.nx, K.ds.set (askS K id who code now 1).1.toNat { gD K.ds (askS K id who code now 1).1.toNat with sg := (gD K.ds (askS K id who code now 1).1.toNat).sg ++ [who] }⟩, 0) := rfl
 refine PC_of_body b_ref26_Sign (by simp) ?_
 simp only [c_ref26_Sign]
 try simp (disch := omega) only [go_sem, jA, jB, jC, jD, jE, jF, jG, jH, jI, jJ, ↓reduceIte, reduceCtorEq, jO, jM, jN, jK, jL, dkv_flat, dkv_len, dkv_tk, dkv_dt]
 refine call_pc (ok_ref26_ask K id who code now 1 (by omega) (by omega)) (by simp [hKp, go_sem]) ?_
 have hok := @askS_ok K id who code now 1
 generalize askS K id who code now 1 = a at *
 obtain ⟨i, p, e⟩ := a
 simp only at hok hS0
 try simp (disch := omega) only [go_sem, jA, jB, jC, jD, jE, jF, jG, jH, jI, jJ, ↓reduceIte, reduceCtorEq, jO, jM, jN, jK, jL, pnv]
 refine cond_n (fun h1 => ?_) (fun h1 => ?_)
 ·try simp (disch := omega) only [go_sem, jA, jB, jC, jD, jE, jF, jG, jH, jI, jJ, ↓reduceIte, reduceCtorEq, jO, jM, jN, jK, jL]
  rw [hS0, if_pos h1]
  exact Pub.tu (.cons pub_dk0 (.cons (Pub.e rfl) .nil))
 obtain rfl : e = 0 := by simpa using h1
 rw [if_neg (by simp)] at hS0
 obtain ⟨j, rfl, hj⟩ := hok rfl
 rw [Int.toNat_natCast] at hS0
 have hg := gD_get hj
 have hgk := gD_kd hB j
 generalize gD K.ds j = d at *
 try simp (disch := omega) only [go_sem, jA, jB, jC, jD, jE, jF, jG, jH, jI, jJ, ↓reduceIte, reduceCtorEq, jO, jM, jN, jK, jL, dkv_flat, dkv_len, dkv_tk, dkv_dt]
 refine (hc_ref26_Copy _ K (by omega) (by omega) fun d hd => by have := (hB.kd d hd).2.2; omega).mono ?_
 rintro r ⟨ob1, n1, c1⟩ ⟨XP, XA, Fs, l1, rfl, hl1, hl2, hP, hPl, hA, hI, hG, hfr⟩
 simp only at hl1 hl2 hPl hfr
 have u0 := hfr 0 (by omega)
 have u1 := hfr 1 (by omega)
 have u2 := hfr 2 (by omega)
 try simp (disch := omega) only [go_sem, jA, jB, jC, jD, jE, jF, jG, jH, jI, jJ, ↓reduceIte, reduceCtorEq, jO, jM, jN, jK, jL] at u0
 try simp (disch := omega) only [go_sem, jA, jB, jC, jD, jE, jF, jG, jH, jI, jJ, ↓reduceIte, reduceCtorEq, jO, jM, jN, jK, jL] at u1
 try simp (disch := omega) only [go_sem, jA, jB, jC, jD, jE, jF, jG, jH, jI, jJ, ↓reduceIte, reduceCtorEq, jO, jM, jN, jK, jL] at u2
 have hFl : Fs.length = K.ds.length := by have := hI.1; simpa [inS] using this
 have hjF : j < Fs.length := by omega
 have hFg : Fs[j]? = some Fs[j] := List.getElem?_eq_getElem hjF
 generalize hEE : Fs[j] = E at *
 have hxg := dvXs_get hg hFg
 have hXl : (dvXs K.ds Fs).length = K.ds.length := by simp [dvXs]; omega
 rcases hA with ⟨_, h0⟩ | ⟨ia, ga, rfl, hia, hoa⟩
 ·rw [h0] at hXl; simp at hXl; omega
 simp only at hia hoa
 have hal : l1 ≤ ia := (hG.low ia fun h => h _ _ _ _ rfl).1
 have hEs := hI.2 j E (ints d.sg) hFg (by simp [inS, hg])
 have z0 : ¬ ia = 0 := by omega
 have d5 : ∀ d E, (dvX d E).cells.getD 5 .junk = E := fun _ _ => rfl
 try simp (disch := omega) only [go_sem, jA, jB, jC, jD, jE, jF, jG, jH, jI, jJ, ↓reduceIte, reduceCtorEq, jO, jM, jN, jK, jL, u0, u1, u2, hP.flat, hP.cells, hP.one, dk_put, hoa, hxg, hXl, z0, d5]
 refine ⟨by omega, by omega, ?_⟩
 refine hEs.lenC ?_
 try simp (disch := omega) only [go_sem, jA, jB, jC, jD, jE, jF, jG, jH, jI, jJ, ↓reduceIte, reduceCtorEq, jO, jM, jN, jK, jL, ints_length]
 refine cond_d (fun h2 => ?_) (fun h2 => ?_) <;> try simp (disch := omega) only [go_sem, jA, jB, jC, jD, jE, jF, jG, jH, jI, jJ, ↓reduceIte, reduceCtorEq, jO, jM, jN, jK, jL, u1, ints_length]
 ·rw [hS0, if_pos (by omega)]
  exact Pub.tu (.cons pub_dk0 (.cons (Pub.e rfl) .nil))
 rw [if_neg (by omega)] at hS0
 try simp (disch := omega) only [go_sem, jA, jB, jC, jD, jE, jF, jG, jH, jI, jJ, ↓reduceIte, reduceCtorEq, jO, jM, jN, jK, jL, hoa, hxg, z0, d5]
 refine hEs.lenC ?_
 try simp (disch := omega) only [go_sem, jA, jB, jC, jD, jE, jF, jG, jH, jI, jJ, ↓reduceIte, reduceCtorEq, jO, jM, jN, jK, jL, ints_length]
 have hEo : ∀ i, ¬ Oth E i → l1 ≤ i ∧ i < n1 := fun i hi => hG.loE E (List.mem_of_getElem? hFg) i hi
 have hEa : Oth E ia := Oth.em fun h => Oth.ne (hG.sep E (List.mem_of_getElem? hFg) ia h) rfl
 refine awp_upG [11, 17, 18, 19, 52, 53, 54, 55, 56, 57, 58, 59, 60, 61, 62, 63, 64, 65, 66, 67, 68, 69, 70, 71, 72] (by kernel_rfl) d.sg.length (fun i e σ => e 52 = .int .i64 i ∧ n1 ≤ σ.n ∧ (∀ i, i < n1 → i ≠ 0 → σ.ob i = ob1 i) ∧ σ.ob 0 = some ⟨0, 3, 67, false, true, [.agg [XP, .int .i64 K.nx, .sl ia ga 7 0 K.ds.length]]⟩ ∧ sgnE K who p.role d.sg = sgnE K who p.role (d.sg.drop i)) ?_ ?_
 ·exact ⟨(by first | rfl | (simp (disch := omega) only [go_sem, jA, jB, jC, jD, jE, jF, jG, jH, jI, jJ, ↓reduceIte, reduceCtorEq, jP, jO, jM, jN]; try rfl)), Nat.le_refl _, fun i hi hne => upd_ne _ _ _ _ hne, by try simp (disch := omega) only [go_sem, jA, jB, jC, jD, jE, jF, jG, jH, jI, jJ, ↓reduceIte, reduceCtorEq, jO, jM, jN, jK, jL], rfl⟩
 rintro i fe ob m c hi hm ⟨h52, hm1, hfr2, v0, hsg⟩
 simp (maxSteps := 1000000) only [go_sem, jA, jB, jC, jD, jE, jF, jG, jH, jI, jJ, ↓reduceIte, reduceCtorEq, jP] at h52 hm hm1 v0 hfr2
 have v1 := (hfr2 1 (by omega) (by omega)).trans u1
 have v2 := (hfr2 2 (by omega) (by omega)).trans u2
 have va := (hfr2 ia hia z0).trans hoa
 try simp (disch := omega) only [go_sem, jA, jB, jC, jD, jE, jF, jG, jH, jI, jJ, ↓reduceIte, reduceCtorEq, jO, jM, jN, jK, jL, h52]
 refine cond_d (fun hlt => ?_) (fun hge => ?_)
 ·have hil : i < d.sg.length := by omega
  rw [List.drop_eq_getElem_cons hil, sgnE] at hsg
  have hgi := ints_get d.sg i
  rw [List.getElem?_eq_getElem hil] at hgi
  generalize d.sg[i] = s at *
  rcases hEs with ⟨rfl, hz⟩ | ⟨ie, ge, rfl, hie, hoe⟩
  ·simp [ints] at hz; rw [hz] at hil; simp at hil
  simp only at hie hoe
  have hie1 := hEo ie fun h => h _ _ _ _ rfl
  have ve := (hfr2 ie hie (by omega)).trans hoe
  try simp (disch := omega) only [go_sem, jA, jB, jC, jD, jE, jF, jG, jH, jI, jJ, ↓reduceIte, reduceCtorEq, jO, jM, jN, jK, jL, h52, ve, hgi, Option.map_some, ints_length]
  refine ⟨by omega, by omega, ?_⟩
  refine cond_d (fun h3 => ?_) (fun h3 => ?_) <;> try simp (disch := omega) only [go_sem, jA, jB, jC, jD, jE, jF, jG, jH, jI, jJ, ↓reduceIte, reduceCtorEq, jO, jM, jN, jK, jL, v1]
  ·rw [if_pos h3] at hsg
   rw [hS0, if_pos (by rw [hsg]; omega), hsg]
   exact Pub.tu (.cons pub_dk0 (.cons (Pub.e rfl) .nil))
  rw [if_neg h3] at hsg
  try simp (disch := omega) only [go_sem, jA, jB, jC, jD, jE, jF, jG, jH, jI, jJ, ↓reduceIte, reduceCtorEq, jO, jM, jN, jK, jL, v0, hP.flat, hP.cells, hP.one]
  have hPub : Pub ⟨ob, m, c⟩ (.agg [XP, .int .i64 K.nx, .sl ia ga 7 0 K.ds.length]) (dkv K) := by
   refine pub_dk (Fs := Fs) (hP.move hm1 fun i hi hh => hfr2 i hi (by have := hPl i hh; omega)) (.inr ⟨ia, ga, by rw [hXl], by simp only; omega, va⟩) (hI.move hm1 fun F hF i hi hlt => hfr2 i hlt (by have := hG.loE F hF i hi; omega))
  refine call_lent (ok_ref26_person K s (by omega)) (.cons hPub (.cons (Pub.e rfl) .nil)) (by simp [AV.scal, pnv, AV.scal1]) ?_
  have z4 : ¬ 2 = m := by omega
  try simp (disch := omega) only [go_sem, jA, jB, jC, jD, jE, jF, jG, jH, jI, jJ, ↓reduceIte, reduceCtorEq, jO, jM, jN, jK, jL, pnv, v2, z4]
  refine cond_d (fun h4 => ?_) (fun h4 => ?_)
  ·have z5 : ¬ 1 = m := by omega
   try simp (disch := omega) only [go_sem, jA, jB, jC, jD, jE, jF, jG, jH, jI, jJ, ↓reduceIte, reduceCtorEq, jO, jM, jN, jK, jL, v1, z5]
   rw [if_pos h4] at hsg
   rw [hS0, if_pos (by rw [hsg]; omega), hsg]
   exact Pub.tu (.cons pub_dk0 (.cons (Pub.e rfl) .nil))
  rw [if_neg h4] at hsg
  try simp (disch := omega) only [go_sem, jA, jB, jC, jD, jE, jF, jG, jH, jI, jJ, ↓reduceIte, reduceCtorEq, jO, jM, jN, jK, jL, h52]
  refine up_nextG (m + 1) hil (by omega) ⟨(by first | rfl | (simp (disch := omega) only [go_sem, jA, jB, jC, jD, jE, jF, jG, jH, jI, jJ, ↓reduceIte, reduceCtorEq, jP, jO, jM, jN]; try rfl)), by simp only [St.trunc]; omega, fun i hi hne => ?_, ?_, hsg⟩
  ·rw [tr_ob (by omega), upd_ne _ _ _ _ (by omega), upd_ne _ _ _ _ (by omega)]; exact hfr2 i hi hne
  ·rw [tr_ob (by omega), upd_ne _ _ _ _ (by omega), upd_ne _ _ _ _ (by omega)]; exact v0
 obtain rfl : i = d.sg.length := by omega
 rw [List.drop_length, sgnE] at hsg
 rw [if_neg (by simp [hsg])] at hS0
 have hse := hEs.move (τ := ⟨ob, m, c⟩) hm1 fun i hi hh => hfr2 i hi (by have := hEo i hh; omega)
 try simp (disch := omega) only [go_sem, jA, jB, jC, jD, jE, jF, jG, jH, jI, jJ, ↓reduceIte, reduceCtorEq, jO, jM, jN, jK, jL, va, hxg, d5]
 refine app_slr (b := 8) hse (by rw [ints_length]; omega) (by rw [ints_length]; omega) fun E' τ5 hE5 k5 => ?_
 obtain ⟨ob5, m5, c5⟩ := τ5
 have hm5 : m ≤ m5 := k5.1
 have q5 : ∀ i, i < m → Oth E i → ob5 i = ob i := fun i hi ho => k5.2.1 i hi ho
 have oE : ∀ i, i < l1 → Oth E i := fun i hi => Oth.em fun h => by have := (hEo i h).1; omega
 have w0 := (q5 0 (by omega) (oE 0 (by omega))).trans v0
 have w1 := (q5 1 (by omega) (oE 1 (by omega))).trans v1
 have wa := (q5 ia (by omega) hEa).trans va
 have p5 : ∀ y, setc 5 E' (dvX d y) = dvX { d with sg := d.sg ++ [who] } E' := fun y => by
  rcases hE5 with ⟨rfl, _⟩ | ⟨_, _, rfl, _⟩ <;> rfl
 have z6 : ¬ ia = 1 := by omega
 try simp (disch := omega) only [go_sem, jA, jB, jC, jD, jE, jF, jG, jH, jI, jJ, ↓reduceIte, reduceCtorEq, jO, jM, jN, jK, jL, wa, hxg, hXl, w0, w1, z0, z6, hE5.flat, hE5.cells, hE5.one, p5, hP.flat, hP.cells, hP.one]
 rw [hS0]
 have hD : (dvXs K.ds Fs).set j (dvX { d with sg := d.sg ++ [who] } E') = dvXs (K.ds.set j { d with sg := d.sg ++ [who] }) (Fs.set j E') := zip_set dvX _ _ _ _ _
 have hlen : (dvXs (K.ds.set j { d with sg := d.sg ++ [who] }) (Fs.set j E')).length = K.ds.length := by simp [dvXs]; omega
 rw [hD]
 have oE5 : ∀ i, i < m → Oth E i → Oth E' i := fun i hi ho => k5.2.2 i hi ho
 have fz : ∀ (x y : Option AObj) i, i ≠ ia → i ≠ 1 → upd (upd ob5 ia x) 1 y i = ob5 i := fun x y i h1 h2 => by rw [upd_ne _ _ _ _ h2, upd_ne _ _ _ _ h1]
 refine Pub.tu (.cons (pub_dk (Fs := Fs.set j E') (hP.move (by simp only; omega) fun i hi hh => ?_) (.inr ⟨ia, ga, by rw [hlen], by simp only; omega, ?_⟩) ?_) (.cons (Pub.e rfl) .nil))
 ·have h9 := hPl i hh
  simp only
  rw [fz _ _ i (by omega) (by omega), q5 i (by omega) (oE i h9.2), hfr2 i hi (by omega)]
 ·simp only
  rw [upd_ne _ _ _ _ (by omega), upd_same]
 ·rw [show inS (K.ds.set j { d with sg := d.sg ++ [who] }) = (inS K.ds).set j (ints (d.sg ++ [who])) by simp [inS, List.map_set]]
  have happ : ints (d.sg ++ [who]) = ints d.sg ++ [.int .i64 who] := by simp [ints]
  refine hI.set ?_ fun i F L hne hF hL => ?_
  ·rw [happ]
   refine hE5.move (Nat.le_refl _) fun i hi hh => ?_
   have hx1 : ¬ i = ia := fun h => hh (h ▸ oE5 ia (by omega) hEa)
   have hx2 : ¬ i = 1 := fun h => hh (h ▸ oE5 1 (by omega) (oE 1 (by omega)))
   simp only
   rw [fz _ _ i hx1 hx2]
  ·refine (hI.2 i F L hF hL).move (by simp only; omega) fun q hq hh => ?_
   simp only at hq
   have h9 := (hG.loE F (List.mem_of_getElem? hF) q hh).1
   have hx1 : ¬ q = ia := fun h => Oth.ne (hG.sep F (List.mem_of_getElem? hF) q hh) h.symm
   have hx3 := hG.dj i j F E hne hF hFg q hh
   simp only
   rw [fz _ _ q hx1 (by omega), q5 q (by omega) hx3, hfr2 q hq (by omega)]
def ZL (Z : AV) (K : Dk) : Prop := Z = dkv K ∨ ∃ ps, Z = .agg [.list 3 (pns ps), .int .i64 1, .nil] ∧ K = ⟨ps, 1, []⟩
theorem ZL.nlr {Z : AV} {K : Dk} (h : ZL Z K) : NlR Z (dkv K) := by
 rcases h with rfl | ⟨ps, rfl, rfl⟩
 ·exact .rfl
 ·exact .agg (.cons .rfl (.cons .rfl (.cons (.nil 7) .nil)))
theorem ZL.pur {Z : AV} {K : Dk} (h : ZL Z K) : Z.pur = true := by
 rcases h with rfl | ⟨ps, rfl, rfl⟩
 ·exact dkv_pur K
 ·simp [go_sem, pns_pur]
theorem ZL.flat {Z : AV} {K : Dk} (h : ZL Z K) : Z.flat = true ∧ Z.cells.length = 3 ∧ AV.agg (Z.cells.take 3) = Z ∧ AV.agg ((Z.cells.drop 0).take 3) = Z := by
 rcases h with rfl | ⟨ps, rfl, rfl⟩
 ·exact ⟨dkv_flat K, rfl, rfl, rfl⟩
 ·exact ⟨rfl, rfl, rfl, rfl⟩
theorem ZL.put {Z : AV} {K : Dk} (h : ZL Z K) (M : Dk) : setc 0 (dkv M) Z = dkv M := by
 rcases h with rfl | ⟨ps, rfl, rfl⟩ <;> rfl
theorem ZL.pub {Z : AV} {K : Dk} (h : ZL Z K) {σ : St} : Pub σ Z (dkv K) := by
 rcases h with rfl | ⟨ps, rfl, rfl⟩
 ·exact .pure (dkv_pur K)
 ·exact Pub.ag (.cons (Pub.pure (by simp [go_sem, pns_pur])) (.cons (Pub.e rfl) (.cons (.nl 7) .nil)))
theorem dkv_ct (K : Dk) : (dkv K).cells.take 3 = (dkv K).cells := rfl
theorem dkv_ca (K : Dk) : AV.agg (dkv K).cells = dkv K := rfl
theorem dkv_one (K : Dk) : (dkv K).cells.all AV.one = true := rfl
theorem dk_put0 (M : Dk) : setc 0 (dkv M) (.agg [.nil, .int .i64 0, .nil]) = dkv M := rfl
theorem hc_flow_SignedZ (σ : St) (id g : Nat) (t : List Int) (at' : Nat) (K : Dk) (Z : AV) (hZ : ZL Z K) (hB : DkB K) (now : Int) (hl : t.length ≤ 9223372036854775807) (hid : id < σ.n) (hob : σ.ob id = some ⟨g, 2, ty_Deck, false, true, [deckV t at']⟩) :
  HC prog n_flow_Signed [.ptr id g 2 0 0, Z, .int .i64 now] σ (DeckR σ id g t SgB) := by
 rcases hZ with rfl | ⟨ps, rfl, rfl⟩
 ·exact hc_flow_Signed σ id g t at' K hB now hl hid hob
 ·refine HC.deck hid ?_
  obtain ⟨ob0, n0, c0⟩ := σ
  simp only at hob hid
  refine HC_of_body b_flow_Signed (by simp) ?_
  simp only [c_flow_Signed]
  have z0 : ¬ id = n0 := by omega
  have z1 : ¬ n0 = id := by omega
  have fin : ∀ (ob' : Nat → Option AObj) (c' m' : Nat) (a b c : Int) (at2 : Nat), ob' id = some ⟨g, 2, ty_Deck, false, true, [deckV t at2]⟩ → (∀ i, i < n0 → i ≠ id → ob' i = ob0 i) → (0 ≤ a ∧ a ≤ 1073741824 ∧ 0 ≤ b ∧ b ≤ 1073741824 ∧ 0 ≤ c ∧ c ≤ 4294967296) →
    Deck0 ⟨ob0, n0, c0⟩ id g t SgB (.tuple [.int .i64 a, .int .i64 b, .int .i64 c]) ⟨ob', m', c'⟩ := fun ob' c' m' a b c at2 h1 h2 h3 => ⟨_, at2, .pure rfl, ⟨a, b, c, rfl, h3⟩, h1, h2⟩
  try simp (disch := omega) only [go_sem, jA, jB, jC, jD, jE, jF, jG, jH, jI, jJ, ↓reduceIte, reduceCtorEq, jO, jM, jN, jK, jL]
  refine call_hc (ok_mk_Deck_Next _ id g ty_Deck true t at' 3 (by try simp (disch := omega) only [go_sem, jA, jB, jC, jD, jE, jF, jG, jH, jI, jJ, ↓reduceIte, reduceCtorEq, jO, jM, jN, jK, jL, z0]; exact hob) (by omega) hl) ?_
  have hx1 := deckR_bd t at' 3
  generalize deckR t at' 3 = dr at *
  obtain ⟨x1, at1⟩ := dr
  simp only at hx1
  try simp (disch := omega) only [go_sem, jA, jB, jC, jD, jE, jF, jG, jH, jI, jJ, ↓reduceIte, reduceCtorEq, jO, jM, jN, jK, jL, z0, z1]
  refine call_hc (ok_mk_Deck_Next _ id g ty_Deck true t at1 3 (by try simp (disch := omega) only [go_sem, jA, jB, jC, jD, jE, jF, jG, jH, jI, jJ, ↓reduceIte, reduceCtorEq, jO, jM, jN, jK, jL]) (by omega) hl) ?_
  have hx2 := deckR_bd t at1 3
  generalize deckR t at1 3 = dr at *
  obtain ⟨x2, at2⟩ := dr
  simp only at hx2
  try simp (disch := omega) only [go_sem, jA, jB, jC, jD, jE, jF, jG, jH, jI, jJ, ↓reduceIte, reduceCtorEq, jO, jM, jN, jK, jL, z0, z1]
  refine call_hc (ok_mk_Deck_Next _ id g ty_Deck true t at2 100 (by try simp (disch := omega) only [go_sem, jA, jB, jC, jD, jE, jF, jG, jH, jI, jJ, ↓reduceIte, reduceCtorEq, jO, jM, jN, jK, jL]) (by omega) hl) ?_
  have hx3 := deckR_bd t at2 100
  generalize deckR t at2 100 = dr at *
  obtain ⟨x3, at3⟩ := dr
  simp only at hx3
  try simp (disch := omega) only [go_sem, jA, jB, jC, jD, jE, jF, jG, jH, jI, jJ, ↓reduceIte, reduceCtorEq, jO, jM, jN, jK, jL, z0, z1]
  exact fin _ _ _ _ _ _ at3 (by try simp (disch := omega) only [go_sem, jA, jB, jC, jD, jE, jF, jG, jH, jI, jJ, ↓reduceIte, reduceCtorEq, jO, jM, jN, jK, jL]) (fun i hi hne => by
   have j0 : ¬ i = n0 := by omega
   try simp (disch := omega) only [go_sem, jA, jB, jC, jD, jE, jF, jG, jH, jI, jJ, ↓reduceIte, reduceCtorEq, jO, jM, jN, jK, jL, j0, hne]) (by omega)
theorem hc_flow_Desk (σ : St) (id g : Nat) (t : List Int) (at' : Nat) (hl : t.length ≤ 9223372036854775807) (hid : id < σ.n) (hob : σ.ob id = some ⟨g, 2, ty_Deck, false, true, [deckV t at']⟩) :
  HC prog n_flow_Desk [.ptr id g 2 0 0] σ (DeckR σ id g t fun r => ∃ K, r = dkv K ∧ DkB K) := by
 refine HC.deck hid ?_
 obtain ⟨ob0, n0, c0⟩ := σ
 simp only at hob hid
 refine HC_of_body b_flow_Desk (by simp) ?_
 simp only [c_flow_Desk]
 have z0 : ¬ id = n0 := by omega
 have z1 : ¬ n0 = id := by omega
 have z2 : ¬ n0 + 1 = id := by omega
 have z3 : ¬ id = n0 + 1 := by omega
 try simp (disch := omega) only [go_sem, jA, jB, jC, jD, jE, jF, jG, jH, jI, jJ, ↓reduceIte, reduceCtorEq, jO, jM, jN, jK, jL]
 refine (hc_flow_People _ id g t at' hl (by simp only; omega) (by try simp (disch := omega) only [go_sem, jA, jB, jC, jD, jE, jF, jG, jH, jI, jJ, ↓reduceIte, reduceCtorEq, jO, jM, jN, jK, jL, z0]; exact hob)).mono ?_
 intro r τ hDR
 obtain ⟨⟨ps, rfl, hps, hpb⟩, hn, ⟨at1, hd⟩, hf⟩ := hDR.use (by simp only; omega)
 obtain ⟨ob1, n1, c1⟩ := τ
 simp only at hn hd hf
 subst hn
 have u0 := hf n0 (by omega) z1
 try simp (disch := omega) only [go_sem, jA, jB, jC, jD, jE, jF, jG, jH, jI, jJ, ↓reduceIte, reduceCtorEq, jO, jM, jN, jK, jL] at u0
 try simp (disch := omega) only [go_sem, jA, jB, jC, jD, jE, jF, jG, jH, jI, jJ, ↓reduceIte, reduceCtorEq, jO, jM, jN, jK, jL, z2, z3]
 refine call_hc (ok_mk_Deck_Next _ id g ty_Deck true t at1 12 (by try simp (disch := omega) only [go_sem, jA, jB, jC, jD, jE, jF, jG, jH, jI, jJ, ↓reduceIte, reduceCtorEq, jO, jM, jN, jK, jL, z3]; exact hd) (by omega) hl) ?_
 have hx1 := deckR_bd t at1 12
 generalize deckR t at1 12 = dr at *
 obtain ⟨x0, at0⟩ := dr
 simp only at hx1
 try simp (disch := omega) only [go_sem, jA, jB, jC, jD, jE, jF, jG, jH, jI, jJ, ↓reduceIte, reduceCtorEq, jO, jM, jN, jK, jL, z2, z3]
 obtain ⟨N, hN⟩ : ∃ N : Nat, (N : Int) = x0 ∧ N ≤ 12 := ⟨x0.toNat, by omega, by omega⟩
 obtain ⟨rfl, hN⟩ := hN
 refine awp_upG [4, 5, 6, 7, 8, 9, 10, 11, 12, 13, 14, 15, 21, 22, 23, 24, 25, 26, 27, 28, 29, 30, 31, 32, 33, 34, 35, 36, 37, 38, 39, 40, 41, 42, 43, 44, 45, 46, 47, 48, 49, 50, 51, 52, 53, 54, 55, 56, 57, 58, 59, 60, 61, 62, 63, 64, 65, 66, 67, 68, 69, 70, 71, 72, 73, 74, 75, 76, 77, 78, 79, 80, 81, 82, 83, 84, 85, 86, 87, 88] (by kernel_rfl) N (fun k e σ => e 4 = .int .i64 ((N : Int) - k) ∧ n0 + 2 ≤ σ.n ∧ (∃ a, σ.ob id = some ⟨g, 2, ty_Deck, false, true, [deckV t a]⟩) ∧ (∀ i, i < n0 → i ≠ id → σ.ob i = ob0 i) ∧ σ.ob n0 = some ⟨c0, 3, 67, false, true, [.agg [.nil, .int .i64 0, .nil]]⟩ ∧
   ∃ K Z, σ.ob (n0 + 1) = some ⟨c1, 3, 67, false, true, [Z]⟩ ∧ ZL Z K ∧ DkB K) ?_ ?_
 ·refine ⟨(by first | rfl | (simp (disch := omega) only [go_sem, jA, jB, jC, jD, jE, jF, jG, jH, jI, jJ, ↓reduceIte, reduceCtorEq, jP, jO, jM, jN]; try rfl)), Nat.le_refl _, ⟨at0, by try simp (disch := omega) only [go_sem, jA, jB, jC, jD, jE, jF, jG, jH, jI, jJ, ↓reduceIte, reduceCtorEq, jO, jM, jN, jK, jL]⟩, fun i hi hne => ?_, ?_, ⟨ps, 1, []⟩, _, by try simp (disch := omega) only [go_sem, jA, jB, jC, jD, jE, jF, jG, jH, jI, jJ, ↓reduceIte, reduceCtorEq, jO, jM, jN, jK, jL, z2], .inr ⟨ps, rfl, rfl⟩, ⟨by simp only; omega, by simp, fun p hp => ?_, by simp⟩⟩
  ·have j1 : ¬ i = n0 + 1 := by omega
   try simp (disch := omega) only [go_sem, jA, jB, jC, jD, jE, jF, jG, jH, jI, jJ, ↓reduceIte, reduceCtorEq, jO, jM, jN, jK, jL, hne, j1]
   rw [hf i (by omega) hne, upd_ne _ _ _ _ (by omega)]
  ·try simp (disch := omega) only [go_sem, jA, jB, jC, jD, jE, jF, jG, jH, jI, jJ, ↓reduceIte, reduceCtorEq, jO, jM, jN, jK, jL, z1]
   exact u0
  ·have := hpb p hp; omega
 clear hf hd u0 hDR
 rintro k fe ob m c hk hm ⟨h4, hm1, ⟨at2, hd⟩, hfr, v0, K, Z, v1, hZ, hB⟩
 simp (maxSteps := 1000000) only [go_sem, jA, jB, jC, jD, jE, jF, jG, jH, jI, jJ, ↓reduceIte, reduceCtorEq, jP] at h4 hm hm1 hd hfr v0 v1
 obtain ⟨zf, zl, zt, zd⟩ := hZ.flat
 have zp := hZ.pur
 try simp (disch := omega) only [go_sem, jA, jB, jC, jD, jE, jF, jG, jH, jI, jJ, ↓reduceIte, reduceCtorEq, jO, jM, jN, jK, jL, h4]
 refine cond_d (fun hge => ?_) (fun hlt => ?_)
 ·have hkl : k < N := by omega
  try simp (disch := omega) only [go_sem, jA, jB, jC, jD, jE, jF, jG, jH, jI, jJ, ↓reduceIte, reduceCtorEq, jO, jM, jN, jK, jL]
  refine call_hc (ok_mk_Deck_Next _ id g ty_Deck true t at2 12 (by exact hd) (by omega) hl) ?_
  have hx2 := deckR_bd t at2 12
  generalize deckR t at2 12 = dr at *
  obtain ⟨fr, at3⟩ := dr
  simp only at hx2
  try simp (disch := omega) only [go_sem, jA, jB, jC, jD, jE, jF, jG, jH, jI, jJ, ↓reduceIte, reduceCtorEq, jO, jM, jN, jK, jL]
  refine call_hc (ok_mk_Deck_Next _ id g ty_Deck true t at3 4 (by try simp (disch := omega) only [go_sem, jA, jB, jC, jD, jE, jF, jG, jH, jI, jJ, ↓reduceIte, reduceCtorEq, jO, jM, jN, jK, jL]) (by omega) hl) ?_
  have hx3 := deckR_bd t at3 4
  generalize deckR t at3 4 = dr at *
  obtain ⟨kd, at4⟩ := dr
  simp only at hx3
  try simp (disch := omega) only [go_sem, jA, jB, jC, jD, jE, jF, jG, jH, jI, jJ, ↓reduceIte, reduceCtorEq, jO, jM, jN, jK, jL]
  refine cond_d (fun k0 => ?_) (fun k0 => ?_)
  ·try simp (disch := omega) only [go_sem, jA, jB, jC, jD, jE, jF, jG, jH, jI, jJ, ↓reduceIte, reduceCtorEq, jO, jM, jN, jK, jL, z2, v1, zf, zl, zt, zd]
   refine call_hc (ok_mk_Deck_Next _ id g ty_Deck true t at4 3 (by try simp (disch := omega) only [go_sem, jA, jB, jC, jD, jE, jF, jG, jH, jI, jJ, ↓reduceIte, reduceCtorEq, jO, jM, jN, jK, jL]) (by omega) hl) ?_
   generalize deckR t at4 3 = dr at *
   obtain ⟨st, at5⟩ := dr
   try simp (disch := omega) only [go_sem, jA, jB, jC, jD, jE, jF, jG, jH, jI, jJ, ↓reduceIte, reduceCtorEq, jO, jM, jN, jK, jL, z2, v1]
   refine call_hc (ok_mk_Deck_Next _ id g ty_Deck true t at5 12 (by try simp (disch := omega) only [go_sem, jA, jB, jC, jD, jE, jF, jG, jH, jI, jJ, ↓reduceIte, reduceCtorEq, jO, jM, jN, jK, jL]) (by omega) hl) ?_
   have hx5 := deckR_bd t at5 12
   generalize deckR t at5 12 = dr at *
   obtain ⟨dt, at6⟩ := dr
   simp only at hx5
   try simp (disch := omega) only [go_sem, jA, jB, jC, jD, jE, jF, jG, jH, jI, jJ, ↓reduceIte, reduceCtorEq, jO, jM, jN, jK, jL, z2, v1]
   refine call_hc (ok_mk_Deck_Next _ id g ty_Deck true t at6 60 (by try simp (disch := omega) only [go_sem, jA, jB, jC, jD, jE, jF, jG, jH, jI, jJ, ↓reduceIte, reduceCtorEq, jO, jM, jN, jK, jL]) (by omega) hl) ?_
   generalize deckR t at6 60 = dr at *
   obtain ⟨rl, at7⟩ := dr
   try simp (disch := omega) only [go_sem, jA, jB, jC, jD, jE, jF, jG, jH, jI, jJ, ↓reduceIte, reduceCtorEq, jO, jM, jN, jK, jL, z2, v1]
   refine call_pc (pc_nl (ok_ref26_Request K hB st fr (fr + dt) rl) (.cons hZ.nlr (NlRs.refl _))) (by simp [zp, go_sem]) ?_
   have hB2 := reqS_b hB st fr (fr + dt) rl
   generalize reqS K st fr (fr + dt) rl = T at *
   obtain ⟨K2, i2, e2⟩ := T
   simp only at hB2
   try simp (disch := omega) only [go_sem, jA, jB, jC, jD, jE, jF, jG, jH, jI, jJ, ↓reduceIte, reduceCtorEq, jO, jM, jN, jK, jL, z2, z3, v1, dkv_flat, dkv_len, hZ.put, h4]
   refine up_nextG m hkl (by omega) ⟨by try simp (disch := omega) only [go_sem, jA, jB, jC, jD, jE, jF, jG, jH, jI, jJ, ↓reduceIte, reduceCtorEq, jO, jM, jN, jK, jL]; congr 1; omega, by simp only [St.trunc]; omega, ⟨at7, ?_⟩, fun i hi hne => ?_, ?_, K2, _, ?_, .inl rfl, hB2⟩
   ·rw [tr_ob (by omega)]; try simp (disch := omega) only [go_sem, jA, jB, jC, jD, jE, jF, jG, jH, jI, jJ, ↓reduceIte, reduceCtorEq, jO, jM, jN, jK, jL, z2, z3]
   ·have j1 : ¬ i = n0 + 1 := by omega
    rw [tr_ob (by omega)]; try simp (disch := omega) only [go_sem, jA, jB, jC, jD, jE, jF, jG, jH, jI, jJ, ↓reduceIte, reduceCtorEq, jO, jM, jN, jK, jL, hne, j1]; exact hfr i hi hne
   ·rw [tr_ob (by omega)]; try simp (disch := omega) only [go_sem, jA, jB, jC, jD, jE, jF, jG, jH, jI, jJ, ↓reduceIte, reduceCtorEq, jO, jM, jN, jK, jL, z1]; exact v0
   ·rw [tr_ob (by omega)]; try simp (disch := omega) only [go_sem, jA, jB, jC, jD, jE, jF, jG, jH, jI, jJ, ↓reduceIte, reduceCtorEq, jO, jM, jN, jK, jL]
  try simp (disch := omega) only [go_sem, jA, jB, jC, jD, jE, jF, jG, jH, jI, jJ, ↓reduceIte, reduceCtorEq, jO, jM, jN, jK, jL]
  refine cond_d (fun k1 => ?_) (fun k1 => ?_)
  ·try simp (disch := omega) only [go_sem, jA, jB, jC, jD, jE, jF, jG, jH, jI, jJ, ↓reduceIte, reduceCtorEq, jO, jM, jN, jK, jL, decide_eq_true k1, z2, v1, zf, zl, zt, zd]
   skip
   refine (hc_flow_SignedZ _ id g t at4 K Z hZ hB fr hl (by simp only; omega) (by try simp (disch := omega) only [go_sem, jA, jB, jC, jD, jE, jF, jG, jH, jI, jJ, ↓reduceIte, reduceCtorEq, jO, jM, jN, jK, jL])).mono ?_
   intro r τ hDR
   obtain ⟨⟨sa, sb', sc, rfl, hs1, hs2, hs3, hs4, hs5, hs6⟩, hn2, ⟨at5, hd5⟩, hf5⟩ := hDR.use (by simp only; omega)
   obtain ⟨ob2, m2, c2⟩ := τ
   simp only at hn2 hd5 hf5
   subst hn2
   have w0 := hf5 n0 (by omega) z1
   have w1 := hf5 (n0 + 1) (by omega) z2
   try simp (disch := omega) only [go_sem, jA, jB, jC, jD, jE, jF, jG, jH, jI, jJ, ↓reduceIte, reduceCtorEq, jO, jM, jN, jK, jL, z1, v0] at w0
   try simp (disch := omega) only [go_sem, jA, jB, jC, jD, jE, jF, jG, jH, jI, jJ, ↓reduceIte, reduceCtorEq, jO, jM, jN, jK, jL, z2, v1] at w1
   try simp (disch := omega) only [go_sem, jA, jB, jC, jD, jE, jF, jG, jH, jI, jJ, ↓reduceIte, reduceCtorEq, jO, jM, jN, jK, jL, w1, zf, zl, zt, zd]
   refine call_pc (pc_nl (ok_ref26_Sign K hB sa sb' sc fr) (.cons hZ.nlr (NlRs.refl _))) (by simp [zp, go_sem]) ?_
   have hB2 := sgnS_b hB sa sb' sc fr
   generalize sgnS K sa sb' sc fr = T at *
   obtain ⟨K2, e2⟩ := T
   simp only at hB2
   have y1 : ¬ n0 + 1 = m2 := by omega
   have y2 : ¬ m2 = n0 + 1 := by omega
   have y3 : ¬ m2 = id := by omega
   have y4 : ¬ id = m2 := by omega
   have y5 : ¬ n0 = m2 := by omega
   have fin : ∀ (o : Option AObj) i, i < n0 → i ≠ id → (upd (upd ob2 m2 o) m2 o) i = ob0 i := fun o i hi hne => by
    have j1 : ¬ i = n0 + 1 := by omega
    rw [upd_ne _ _ _ _ (by omega), upd_ne _ _ _ _ (by omega), hf5 i (by omega) hne]
    try simp (disch := omega) only [go_sem, jA, jB, jC, jD, jE, jF, jG, jH, jI, jJ, ↓reduceIte, reduceCtorEq, jO, jM, jN, jK, jL, hne]
    exact hfr i hi hne
   try simp (disch := omega) only [go_sem, jA, jB, jC, jD, jE, jF, jG, jH, jI, jJ, ↓reduceIte, reduceCtorEq, jO, jM, jN, jK, jL, dkv_flat, dkv_len, dk_put0, y1, y2, y3, y4, y5, upd_upd]
   refine cond_d (fun q1 => ?_) (fun q1 => ?_)
   ·try simp (disch := omega) only [go_sem, jA, jB, jC, jD, jE, jF, jG, jH, jI, jJ, ↓reduceIte, reduceCtorEq, jO, jM, jN, jK, jL, dkv_flat, dkv_len, dkv_ct, dkv_ca, dkv_one, dkv_tk, dkv_dt, dk_put0, y1, y2, y3, y4, y5, upd_upd, w1, hZ.put, h4]
    refine up_nextG (m2 + 1) hkl (by omega) ⟨by try simp (disch := omega) only [go_sem, jA, jB, jC, jD, jE, jF, jG, jH, jI, jJ, ↓reduceIte, reduceCtorEq, jO, jM, jN, jK, jL]; congr 1; omega, by simp only [St.trunc]; omega, ⟨at5, ?_⟩, fun i hi hne => ?_, ?_, K2, _, ?_, .inl rfl, hB2⟩
    ·rw [tr_ob (by omega)]; try simp (disch := omega) only [go_sem, jA, jB, jC, jD, jE, jF, jG, jH, jI, jJ, ↓reduceIte, reduceCtorEq, jO, jM, jN, jK, jL, z2, z3, y3, y4]; exact hd5
    ·rw [tr_ob (by omega), upd_ne _ _ _ _ (by omega), upd_ne _ _ _ _ (by omega), hf5 i (by omega) hne]
     try simp (disch := omega) only [go_sem, jA, jB, jC, jD, jE, jF, jG, jH, jI, jJ, ↓reduceIte, reduceCtorEq, jO, jM, jN, jK, jL, hne]
     exact hfr i hi hne
    ·rw [tr_ob (by omega)]; try simp (disch := omega) only [go_sem, jA, jB, jC, jD, jE, jF, jG, jH, jI, jJ, ↓reduceIte, reduceCtorEq, jO, jM, jN, jK, jL, z1, y5]; exact w0
    ·rw [tr_ob (by omega)]; try simp (disch := omega) only [go_sem, jA, jB, jC, jD, jE, jF, jG, jH, jI, jJ, ↓reduceIte, reduceCtorEq, jO, jM, jN, jK, jL]
   ·try simp (disch := omega) only [go_sem, jA, jB, jC, jD, jE, jF, jG, jH, jI, jJ, ↓reduceIte, reduceCtorEq, jO, jM, jN, jK, jL, h4]
    refine up_nextG (m2 + 1) hkl (by omega) ⟨by try simp (disch := omega) only [go_sem, jA, jB, jC, jD, jE, jF, jG, jH, jI, jJ, ↓reduceIte, reduceCtorEq, jO, jM, jN, jK, jL]; congr 1; omega, by simp only [St.trunc]; omega, ⟨at5, ?_⟩, fun i hi hne => ?_, ?_, K, Z, ?_, hZ, hB⟩
    ·rw [tr_ob (by omega)]; try simp (disch := omega) only [go_sem, jA, jB, jC, jD, jE, jF, jG, jH, jI, jJ, ↓reduceIte, reduceCtorEq, jO, jM, jN, jK, jL, z2, z3, y3, y4]; exact hd5
    ·rw [tr_ob (by omega), upd_ne _ _ _ _ (by omega), hf5 i (by omega) hne]
     try simp (disch := omega) only [go_sem, jA, jB, jC, jD, jE, jF, jG, jH, jI, jJ, ↓reduceIte, reduceCtorEq, jO, jM, jN, jK, jL, hne]
     exact hfr i hi hne
    ·rw [tr_ob (by omega)]; try simp (disch := omega) only [go_sem, jA, jB, jC, jD, jE, jF, jG, jH, jI, jJ, ↓reduceIte, reduceCtorEq, jO, jM, jN, jK, jL, z1, y5]; exact w0
    ·rw [tr_ob (by omega)]; try simp (disch := omega) only [go_sem, jA, jB, jC, jD, jE, jF, jG, jH, jI, jJ, ↓reduceIte, reduceCtorEq, jO, jM, jN, jK, jL, y1]; exact w1
  try simp (disch := omega) only [go_sem, jA, jB, jC, jD, jE, jF, jG, jH, jI, jJ, ↓reduceIte, reduceCtorEq, jO, jM, jN, jK, jL]
  refine cond_d (fun k2 => ?_) (fun k2 => ?_)
  ·try simp (disch := omega) only [go_sem, jA, jB, jC, jD, jE, jF, jG, jH, jI, jJ, ↓reduceIte, reduceCtorEq, jO, jM, jN, jK, jL, z2, v1, zf, zl, zt, zd]
   skip
   refine (hc_flow_SignedZ _ id g t at4 K Z hZ hB fr hl (by simp only; omega) (by try simp (disch := omega) only [go_sem, jA, jB, jC, jD, jE, jF, jG, jH, jI, jJ, ↓reduceIte, reduceCtorEq, jO, jM, jN, jK, jL])).mono ?_
   intro r τ hDR
   obtain ⟨⟨sa, sb', sc, rfl, hs1, hs2, hs3, hs4, hs5, hs6⟩, hn2, ⟨at5, hd5⟩, hf5⟩ := hDR.use (by simp only; omega)
   obtain ⟨ob2, m2, c2⟩ := τ
   simp only at hn2 hd5 hf5
   subst hn2
   have w0 := hf5 n0 (by omega) z1
   have w1 := hf5 (n0 + 1) (by omega) z2
   try simp (disch := omega) only [go_sem, jA, jB, jC, jD, jE, jF, jG, jH, jI, jJ, ↓reduceIte, reduceCtorEq, jO, jM, jN, jK, jL, z1, v0] at w0
   try simp (disch := omega) only [go_sem, jA, jB, jC, jD, jE, jF, jG, jH, jI, jJ, ↓reduceIte, reduceCtorEq, jO, jM, jN, jK, jL, z2, v1] at w1
   try simp (disch := omega) only [go_sem, jA, jB, jC, jD, jE, jF, jG, jH, jI, jJ, ↓reduceIte, reduceCtorEq, jO, jM, jN, jK, jL, w1, zf, zl, zt, zd]
   refine call_pc (pc_nl (ok_ref26_Sign K hB sa sb' sc fr) (.cons hZ.nlr (NlRs.refl _))) (by simp [zp, go_sem]) ?_
   have hB2 := sgnS_b hB sa sb' sc fr
   generalize sgnS K sa sb' sc fr = T at *
   obtain ⟨K2, e2⟩ := T
   simp only at hB2
   have y1 : ¬ n0 + 1 = m2 := by omega
   have y2 : ¬ m2 = n0 + 1 := by omega
   have y3 : ¬ m2 = id := by omega
   have y4 : ¬ id = m2 := by omega
   have y5 : ¬ n0 = m2 := by omega
   have fin : ∀ (o : Option AObj) i, i < n0 → i ≠ id → (upd (upd ob2 m2 o) m2 o) i = ob0 i := fun o i hi hne => by
    have j1 : ¬ i = n0 + 1 := by omega
    rw [upd_ne _ _ _ _ (by omega), upd_ne _ _ _ _ (by omega), hf5 i (by omega) hne]
    try simp (disch := omega) only [go_sem, jA, jB, jC, jD, jE, jF, jG, jH, jI, jJ, ↓reduceIte, reduceCtorEq, jO, jM, jN, jK, jL, hne]
    exact hfr i hi hne
   try simp (disch := omega) only [go_sem, jA, jB, jC, jD, jE, jF, jG, jH, jI, jJ, ↓reduceIte, reduceCtorEq, jO, jM, jN, jK, jL, dkv_flat, dkv_len, dk_put0, y1, y2, y3, y4, y5, upd_upd]
   refine cond_d (fun q1 => ?_) (fun q1 => ?_)
   ·try simp (disch := omega) only [go_sem, jA, jB, jC, jD, jE, jF, jG, jH, jI, jJ, ↓reduceIte, reduceCtorEq, jO, jM, jN, jK, jL, dkv_flat, dkv_len, dkv_ct, dkv_ca, dkv_one, dkv_tk, dkv_dt, dk_put0, y1, y2, y3, y4, y5, upd_upd, w1, hZ.put, h4]
    refine up_nextG (m2 + 1) hkl (by omega) ⟨by try simp (disch := omega) only [go_sem, jA, jB, jC, jD, jE, jF, jG, jH, jI, jJ, ↓reduceIte, reduceCtorEq, jO, jM, jN, jK, jL]; congr 1; omega, by simp only [St.trunc]; omega, ⟨at5, ?_⟩, fun i hi hne => ?_, ?_, K2, _, ?_, .inl rfl, hB2⟩
    ·rw [tr_ob (by omega)]; try simp (disch := omega) only [go_sem, jA, jB, jC, jD, jE, jF, jG, jH, jI, jJ, ↓reduceIte, reduceCtorEq, jO, jM, jN, jK, jL, z2, z3, y3, y4]; exact hd5
    ·rw [tr_ob (by omega), upd_ne _ _ _ _ (by omega), upd_ne _ _ _ _ (by omega), hf5 i (by omega) hne]
     try simp (disch := omega) only [go_sem, jA, jB, jC, jD, jE, jF, jG, jH, jI, jJ, ↓reduceIte, reduceCtorEq, jO, jM, jN, jK, jL, hne]
     exact hfr i hi hne
    ·rw [tr_ob (by omega)]; try simp (disch := omega) only [go_sem, jA, jB, jC, jD, jE, jF, jG, jH, jI, jJ, ↓reduceIte, reduceCtorEq, jO, jM, jN, jK, jL, z1, y5]; exact w0
    ·rw [tr_ob (by omega)]; try simp (disch := omega) only [go_sem, jA, jB, jC, jD, jE, jF, jG, jH, jI, jJ, ↓reduceIte, reduceCtorEq, jO, jM, jN, jK, jL]
   ·try simp (disch := omega) only [go_sem, jA, jB, jC, jD, jE, jF, jG, jH, jI, jJ, ↓reduceIte, reduceCtorEq, jO, jM, jN, jK, jL, h4]
    refine up_nextG (m2 + 1) hkl (by omega) ⟨by try simp (disch := omega) only [go_sem, jA, jB, jC, jD, jE, jF, jG, jH, jI, jJ, ↓reduceIte, reduceCtorEq, jO, jM, jN, jK, jL]; congr 1; omega, by simp only [St.trunc]; omega, ⟨at5, ?_⟩, fun i hi hne => ?_, ?_, K, Z, ?_, hZ, hB⟩
    ·rw [tr_ob (by omega)]; try simp (disch := omega) only [go_sem, jA, jB, jC, jD, jE, jF, jG, jH, jI, jJ, ↓reduceIte, reduceCtorEq, jO, jM, jN, jK, jL, z2, z3, y3, y4]; exact hd5
    ·rw [tr_ob (by omega), upd_ne _ _ _ _ (by omega), hf5 i (by omega) hne]
     try simp (disch := omega) only [go_sem, jA, jB, jC, jD, jE, jF, jG, jH, jI, jJ, ↓reduceIte, reduceCtorEq, jO, jM, jN, jK, jL, hne]
     exact hfr i hi hne
    ·rw [tr_ob (by omega)]; try simp (disch := omega) only [go_sem, jA, jB, jC, jD, jE, jF, jG, jH, jI, jJ, ↓reduceIte, reduceCtorEq, jO, jM, jN, jK, jL, z1, y5]; exact w0
    ·rw [tr_ob (by omega)]; try simp (disch := omega) only [go_sem, jA, jB, jC, jD, jE, jF, jG, jH, jI, jJ, ↓reduceIte, reduceCtorEq, jO, jM, jN, jK, jL, y1]; exact w1
  try simp (disch := omega) only [go_sem, jA, jB, jC, jD, jE, jF, jG, jH, jI, jJ, ↓reduceIte, reduceCtorEq, jO, jM, jN, jK, jL, z2, v1, zf, zl, zt, zd]
  skip
  refine (hc_flow_SignedZ _ id g t at4 K Z hZ hB fr hl (by simp only; omega) (by try simp (disch := omega) only [go_sem, jA, jB, jC, jD, jE, jF, jG, jH, jI, jJ, ↓reduceIte, reduceCtorEq, jO, jM, jN, jK, jL])).mono ?_
  intro r τ hDR
  obtain ⟨⟨sa, sb', sc, rfl, hs1, hs2, hs3, hs4, hs5, hs6⟩, hn2, ⟨at5, hd5⟩, hf5⟩ := hDR.use (by simp only; omega)
  obtain ⟨ob2, m2, c2⟩ := τ
  simp only at hn2 hd5 hf5
  subst hn2
  have w0 := hf5 n0 (by omega) z1
  have w1 := hf5 (n0 + 1) (by omega) z2
  try simp (disch := omega) only [go_sem, jA, jB, jC, jD, jE, jF, jG, jH, jI, jJ, ↓reduceIte, reduceCtorEq, jO, jM, jN, jK, jL, z1, v0] at w0
  try simp (disch := omega) only [go_sem, jA, jB, jC, jD, jE, jF, jG, jH, jI, jJ, ↓reduceIte, reduceCtorEq, jO, jM, jN, jK, jL, z2, v1] at w1
  try simp (disch := omega) only [go_sem, jA, jB, jC, jD, jE, jF, jG, jH, jI, jJ, ↓reduceIte, reduceCtorEq, jO, jM, jN, jK, jL, w1, zf, zl, zt, zd]
  refine call_pc (pc_nl (ok_ref26_Withdraw K hB sa sb' sc fr) (.cons hZ.nlr (NlRs.refl _))) (by simp [zp, go_sem]) ?_
  have hB2 := wdrS_b hB sa sb' sc fr
  generalize wdrS K sa sb' sc fr = T at *
  obtain ⟨K2, e2⟩ := T
  simp only at hB2
  have y1 : ¬ n0 + 1 = m2 := by omega
  have y2 : ¬ m2 = n0 + 1 := by omega
  have y3 : ¬ m2 = id := by omega
  have y4 : ¬ id = m2 := by omega
  have y5 : ¬ n0 = m2 := by omega
  have fin : ∀ (o : Option AObj) i, i < n0 → i ≠ id → (upd (upd ob2 m2 o) m2 o) i = ob0 i := fun o i hi hne => by
   have j1 : ¬ i = n0 + 1 := by omega
   rw [upd_ne _ _ _ _ (by omega), upd_ne _ _ _ _ (by omega), hf5 i (by omega) hne]
   try simp (disch := omega) only [go_sem, jA, jB, jC, jD, jE, jF, jG, jH, jI, jJ, ↓reduceIte, reduceCtorEq, jO, jM, jN, jK, jL, hne]
   exact hfr i hi hne
  try simp (disch := omega) only [go_sem, jA, jB, jC, jD, jE, jF, jG, jH, jI, jJ, ↓reduceIte, reduceCtorEq, jO, jM, jN, jK, jL, dkv_flat, dkv_len, dk_put0, y1, y2, y3, y4, y5, upd_upd]
  refine cond_d (fun q1 => ?_) (fun q1 => ?_)
  ·try simp (disch := omega) only [go_sem, jA, jB, jC, jD, jE, jF, jG, jH, jI, jJ, ↓reduceIte, reduceCtorEq, jO, jM, jN, jK, jL, dkv_flat, dkv_len, dkv_ct, dkv_ca, dkv_one, dkv_tk, dkv_dt, dk_put0, y1, y2, y3, y4, y5, upd_upd, w1, hZ.put, h4]
   refine up_nextG (m2 + 1) hkl (by omega) ⟨by try simp (disch := omega) only [go_sem, jA, jB, jC, jD, jE, jF, jG, jH, jI, jJ, ↓reduceIte, reduceCtorEq, jO, jM, jN, jK, jL]; congr 1; omega, by simp only [St.trunc]; omega, ⟨at5, ?_⟩, fun i hi hne => ?_, ?_, K2, _, ?_, .inl rfl, hB2⟩
   ·rw [tr_ob (by omega)]; try simp (disch := omega) only [go_sem, jA, jB, jC, jD, jE, jF, jG, jH, jI, jJ, ↓reduceIte, reduceCtorEq, jO, jM, jN, jK, jL, z2, z3, y3, y4]; exact hd5
   ·rw [tr_ob (by omega), upd_ne _ _ _ _ (by omega), upd_ne _ _ _ _ (by omega), hf5 i (by omega) hne]
    try simp (disch := omega) only [go_sem, jA, jB, jC, jD, jE, jF, jG, jH, jI, jJ, ↓reduceIte, reduceCtorEq, jO, jM, jN, jK, jL, hne]
    exact hfr i hi hne
   ·rw [tr_ob (by omega)]; try simp (disch := omega) only [go_sem, jA, jB, jC, jD, jE, jF, jG, jH, jI, jJ, ↓reduceIte, reduceCtorEq, jO, jM, jN, jK, jL, z1, y5]; exact w0
   ·rw [tr_ob (by omega)]; try simp (disch := omega) only [go_sem, jA, jB, jC, jD, jE, jF, jG, jH, jI, jJ, ↓reduceIte, reduceCtorEq, jO, jM, jN, jK, jL]
  ·try simp (disch := omega) only [go_sem, jA, jB, jC, jD, jE, jF, jG, jH, jI, jJ, ↓reduceIte, reduceCtorEq, jO, jM, jN, jK, jL, h4]
   refine up_nextG (m2 + 1) hkl (by omega) ⟨by try simp (disch := omega) only [go_sem, jA, jB, jC, jD, jE, jF, jG, jH, jI, jJ, ↓reduceIte, reduceCtorEq, jO, jM, jN, jK, jL]; congr 1; omega, by simp only [St.trunc]; omega, ⟨at5, ?_⟩, fun i hi hne => ?_, ?_, K, Z, ?_, hZ, hB⟩
   ·rw [tr_ob (by omega)]; try simp (disch := omega) only [go_sem, jA, jB, jC, jD, jE, jF, jG, jH, jI, jJ, ↓reduceIte, reduceCtorEq, jO, jM, jN, jK, jL, z2, z3, y3, y4]; exact hd5
   ·rw [tr_ob (by omega), upd_ne _ _ _ _ (by omega), hf5 i (by omega) hne]
    try simp (disch := omega) only [go_sem, jA, jB, jC, jD, jE, jF, jG, jH, jI, jJ, ↓reduceIte, reduceCtorEq, jO, jM, jN, jK, jL, hne]
    exact hfr i hi hne
   ·rw [tr_ob (by omega)]; try simp (disch := omega) only [go_sem, jA, jB, jC, jD, jE, jF, jG, jH, jI, jJ, ↓reduceIte, reduceCtorEq, jO, jM, jN, jK, jL, z1, y5]; exact w0
   ·rw [tr_ob (by omega)]; try simp (disch := omega) only [go_sem, jA, jB, jC, jD, jE, jF, jG, jH, jI, jJ, ↓reduceIte, reduceCtorEq, jO, jM, jN, jK, jL, y1]; exact w1
 obtain rfl : k = N := by omega
 have zo : Z.cells.take 3 = Z.cells ∧ Z.cells.all AV.one = true ∧ AV.agg Z.cells = Z ∧ setc 0 Z (.agg [.nil, .int .i64 0, .nil]) = Z := by
  rcases hZ with rfl | ⟨ps, rfl, rfl⟩ <;> exact ⟨rfl, rfl, rfl, rfl⟩
 obtain ⟨zo1, zo2, zo3, zo4⟩ := zo
 try simp (disch := omega) only [go_sem, jA, jB, jC, jD, jE, jF, jG, jH, jI, jJ, ↓reduceIte, reduceCtorEq, jO, jM, jN, jK, jL, v0, v1, zf, zl, zt, zd, zo1, zo2, zo3, zo4]
 refine ⟨dkv K, at2, hZ.pub, ⟨K, rfl, hB⟩, by simp only; rw [upd_ne _ _ _ _ z0]; exact hd, fun i hi hne => ?_⟩
 simp only at hi
 simp only
 rw [upd_ne _ _ _ _ (by omega)]
 exact hfr i hi hne
def kpv (B : Bk) (K : Dk) (s : Sd) : AV := .agg [.list 4 (acs B.op), .list 6 (rps B.rp), .list 3 (pns K.ps), .int .i64 K.nx, .list 7 (dvs K.ds), .int .i64 s.n, .list 4 (ods s.l)]
theorem kpv_pur (B : Bk) (K : Dk) (s : Sd) : (kpv B K s).pur = true := by simp [kpv, go_sem, acs_pur, rps_pur, pns_pur, dvs_pur, ods_pur]
theorem hc_flow_Kept (σ : St) (id g : Nat) (t : List Int) (at' : Nat) (hl : t.length ≤ 9223372036854775807) (hid : id < σ.n) (hob : σ.ob id = some ⟨g, 2, ty_Deck, false, true, [deckV t at']⟩) :
  HC prog n_flow_Kept [.ptr id g 2 0 0] σ (DeckR σ id g t fun r => ∃ B T K s, r = kpv B K s ∧ TrB B T ∧ DkB K ∧ SdW s) := by
 refine HC.deck hid ?_
 obtain ⟨ob0, n0, c0⟩ := σ
 simp only at hob hid
 refine HC_of_body b_flow_Kept (by simp) ?_
 simp only [c_flow_Kept]
 have z0 : ¬ id = n0 := by omega
 have z1 : ¬ n0 = id := by omega
 have z2 : ¬ n0 + 1 = id := by omega
 have z3 : ¬ id = n0 + 1 := by omega
 try simp (disch := omega) only [go_sem, jA, jB, jC, jD, jE, jF, jG, jH, jI, jJ, ↓reduceIte, reduceCtorEq, jO, jM, jN, jK, jL]
 refine (hc_flow_Book _ id g t at' hl (by simp only; omega) (by try simp (disch := omega) only [go_sem, jA, jB, jC, jD, jE, jF, jG, jH, jI, jJ, ↓reduceIte, reduceCtorEq, jO, jM, jN, jK, jL, z0]; exact hob)).mono ?_
 intro r τ hDR
 obtain ⟨⟨B, T, rfl, hT⟩, hn, ⟨at1, hd⟩, hf⟩ := hDR.use (by simp only; omega)
 obtain ⟨ob1, n1, c1⟩ := τ
 simp only at hn hd hf
 subst hn
 have u0 := hf n0 (by omega) z1
 try simp (disch := omega) only [go_sem, jA, jB, jC, jD, jE, jF, jG, jH, jI, jJ, ↓reduceIte, reduceCtorEq, jO, jM, jN, jK, jL] at u0
 try simp (disch := omega) only [go_sem, jA, jB, jC, jD, jE, jF, jG, jH, jI, jJ, ↓reduceIte, reduceCtorEq, jO, jM, jN, jK, jL, z2, z3, bkv]
 refine (hc_flow_LinesB _ id g t at1 hl (by simp only; omega) (by try simp (disch := omega) only [go_sem, jA, jB, jC, jD, jE, jF, jG, jH, jI, jJ, ↓reduceIte, reduceCtorEq, jO, jM, jN, jK, jL, z3]; exact hd)).mono ?_
 intro r τ hDR2
 obtain ⟨⟨s, u, rfl, hs, hu⟩, hn, ⟨at2, hd2⟩, hf2⟩ := hDR2.use (by simp only; omega)
 obtain ⟨ob2, n2, c2⟩ := τ
 simp only at hn hd2 hf2
 subst hn
 have w0 := hf2 n0 (by omega) z1
 have w1 := hf2 (n0 + 1) (by omega) z2
 have y1 : ¬ n0 = n0 + 1 := by omega
 try simp (disch := omega) only [go_sem, jA, jB, jC, jD, jE, jF, jG, jH, jI, jJ, ↓reduceIte, reduceCtorEq, jO, jM, jN, jK, jL, y1, u0] at w0
 try simp (disch := omega) only [go_sem, jA, jB, jC, jD, jE, jF, jG, jH, jI, jJ, ↓reduceIte, reduceCtorEq, jO, jM, jN, jK, jL] at w1
 have z4 : ¬ n0 + 1 + 1 = id := by omega
 have z5 : ¬ id = n0 + 1 + 1 := by omega
 have z6 : ¬ n0 + 1 + 1 + 1 = id := by omega
 have z7 : ¬ id = n0 + 1 + 1 + 1 := by omega
 try simp (disch := omega) only [go_sem, jA, jB, jC, jD, jE, jF, jG, jH, jI, jJ, ↓reduceIte, reduceCtorEq, jO, jM, jN, jK, jL, sdv, snv, w0, w1, z4, z5, z6, z7]
 refine (hc_flow_Desk _ id g t at2 hl (by simp only; omega) (by try simp (disch := omega) only [go_sem, jA, jB, jC, jD, jE, jF, jG, jH, jI, jJ, ↓reduceIte, reduceCtorEq, jO, jM, jN, jK, jL, z5, z7]; exact hd2)).mono ?_
 intro r τ hDR3
 obtain ⟨⟨K, rfl, hK⟩, hn, ⟨at3, hd3⟩, hf3⟩ := hDR3.use (by simp only; omega)
 obtain ⟨ob3, n3, c3⟩ := τ
 simp only at hn hd3 hf3
 subst hn
 have x0 := hf3 n0 (by omega) z1
 have x1 := hf3 (n0 + 1) (by omega) z2
 have x2 := hf3 (n0 + 1 + 1) (by omega) z4
 have y2 : ¬ n0 = n0 + 1 + 1 := by omega
 have y3 : ¬ n0 = n0 + 1 + 1 + 1 := by omega
 have y4 : ¬ n0 + 1 = n0 + 1 + 1 := by omega
 have y5 : ¬ n0 + 1 = n0 + 1 + 1 + 1 := by omega
 have y6 : ¬ n0 + 1 + 1 = n0 + 1 + 1 + 1 := by omega
 try simp (disch := omega) only [go_sem, jA, jB, jC, jD, jE, jF, jG, jH, jI, jJ, ↓reduceIte, reduceCtorEq, jO, jM, jN, jK, jL, y2, y3, w0] at x0
 try simp (disch := omega) only [go_sem, jA, jB, jC, jD, jE, jF, jG, jH, jI, jJ, ↓reduceIte, reduceCtorEq, jO, jM, jN, jK, jL, y4, y5, w1] at x1
 try simp (disch := omega) only [go_sem, jA, jB, jC, jD, jE, jF, jG, jH, jI, jJ, ↓reduceIte, reduceCtorEq, jO, jM, jN, jK, jL, y6] at x2
 try simp (disch := omega) only [go_sem, jA, jB, jC, jD, jE, jF, jG, jH, jI, jJ, ↓reduceIte, reduceCtorEq, jO, jM, jN, jK, jL, dkv, x0, x1, x2, y2, y3, y4, y5, y6]
 refine ⟨w1.symm, _, at3, .pure (kpv_pur B K s), ⟨B, T, K, s, rfl, hT, hK, hs⟩, by simp only; rw [upd_ne _ _ _ _ z0]; exact hd3, fun i hi hne => ?_⟩
 simp only at hi
 simp only
 have j0 : ¬ i = n0 := by omega
 have j1 : ¬ i = n0 + 1 := by omega
 have j2 : ¬ i = n0 + 1 + 1 := by omega
 have j3 : ¬ i = n0 + 1 + 1 + 1 := by omega
 rw [upd_ne _ _ _ _ j0, hf3 i (by omega) hne]
 try simp (disch := omega) only [go_sem, jA, jB, jC, jD, jE, jF, jG, jH, jI, jJ, ↓reduceIte, reduceCtorEq, jO, jM, jN, jK, jL, j0, j1, j2, j3]
 rw [hf2 i (by omega) hne]
 try simp (disch := omega) only [go_sem, jA, jB, jC, jD, jE, jF, jG, jH, jI, jJ, ↓reduceIte, reduceCtorEq, jO, jM, jN, jK, jL, j1]
 rw [hf i (by omega) hne]
 try simp (disch := omega) only [go_sem, jA, jB, jC, jD, jE, jF, jG, jH, jI, jJ, ↓reduceIte, reduceCtorEq, jO, jM, jN, jK, jL, j0]
end Go.Proofs.Try
