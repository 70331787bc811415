/-
  OWN WORK. THE BASE, PART Q: a loop leaves the slots alone that its text does not name as a place to put something.
-/
import Derived.Test.YtfkkhdbmignmaaaBaseN
namespace Go.Ab

theorem elemsK_mono {σ : St} {x : AV} {K K' : List AV → Prop} (k : ∀ l, K l → K' l) (h : elemsK σ x K) : elemsK σ x K' := by
  unfold elemsK at h ⊢
  split at h
  · exact k _ h
  · exact k _ h
  · obtain ⟨o, a1, a2, a3, a4, h⟩ := h
    exact ⟨o, a1, a2, a3, a4, k _ h⟩
  · exact h.elim
theorem run1_mono {P : Program} {e : Nat → AV} {op : AOp} {σ : St} {K K' : AV → St → Prop} (k : ∀ v τ, K v τ → K' v τ) (h : run1 (HC P) op e σ K) : run1 (HC P) op e σ K' := by
  cases op with
  | mv x => exact k _ _ h
  | pick c a b =>
    simp only [run1] at h ⊢
    generalize c.ev e = cv at h ⊢
    unfold pickC at h ⊢
    split at h
    · exact ⟨fun t => k _ _ (h.1 t), fun t => k _ _ (h.2 t)⟩
    · exact h.elim
  | alloc es ty z => exact k _ _ h
  | box es ty x => exact ⟨h.1, h.2.1, k _ _ h.2.2⟩
  | build zs ps => exact ⟨h.1, k _ _ h.2⟩
  | lit mu es ty xs =>
    obtain ⟨h1, h⟩ := h
    refine ⟨h1, ?_⟩
    cases mu <;> exact k _ _ h
  | load ag sz x =>
    simp only [run1] at h ⊢
    generalize x.ev e = xv at h ⊢
    unfold loadC at h ⊢
    split at h
    · obtain ⟨o, a1, a2, a3, a4, y, a5, h⟩ := h
      exact ⟨o, a1, a2, a3, a4, y, a5, k _ _ h⟩
    · obtain ⟨a4, y, a5, h⟩ := h
      exact ⟨a4, y, a5, k _ _ h⟩
    · exact h.elim
  | store sz x v =>
    simp only [run1] at h ⊢
    generalize x.ev e = xv at h ⊢
    unfold storeC at h ⊢
    split at h
    · obtain ⟨o, a1, a2, a3, a4, a5, a6, a7, y, a8, h⟩ := h
      exact ⟨o, a1, a2, a3, a4, a5, a6, a7, y, a8, k _ _ h⟩
    · exact h.elim
  | nilchk x =>
    simp only [run1] at h ⊢
    generalize x.ev e = xv at h ⊢
    unfold nilchkC at h ⊢
    split at h
    · exact k _ _ h
    · exact k _ _ h
    · exact k _ _ h
    · exact h.elim
  | bin op x y =>
    obtain ⟨v, hv, hd⟩ := binK_det (K := fun v => K v σ) h
    exact hd (fun v => K' v σ) (k _ _ hv)
  | eqb neg x y =>
    simp only [run1] at h ⊢
    generalize x.ev e = xv at h ⊢
    generalize y.ev e = yv at h ⊢
    unfold eqbC at h ⊢
    split at h
    · exact k _ _ h
    · exact h.elim
  | eqs neg n x y =>
    simp only [run1] at h ⊢
    generalize x.ev e = xv at h ⊢
    generalize y.ev e = yv at h ⊢
    unfold eqsC at h ⊢
    split at h
    · obtain ⟨b, hb, h⟩ := h
      exact ⟨b, hb, k _ _ h⟩
    · exact h.elim
  | un op x =>
    simp only [run1] at h ⊢
    generalize x.ev e = xv at h ⊢
    unfold unC at h ⊢
    split at h
    · exact k _ _ h
    · exact k _ _ h
    · exact h.elim
  | conv K2 x =>
    simp only [run1] at h ⊢
    generalize x.ev e = xv at h ⊢
    unfold convC at h ⊢
    split at h
    · exact k _ _ h
    · exact h.elim
  | mkf f caps => exact k _ _ h
  | fa off x =>
    simp only [run1] at h ⊢
    generalize x.ev e = xv at h ⊢
    unfold faC at h ⊢
    split at h
    · exact k _ _ h
    · exact k _ _ h
    · exact h.elim
  | ixs es x i =>
    simp only [run1] at h ⊢
    generalize x.ev e = xv at h ⊢
    generalize i.ev e = iv at h ⊢
    unfold ixsC at h ⊢
    split at h
    · obtain ⟨a1, a2, a3, a4, h⟩ := h
      exact ⟨a1, a2, a3, a4, k _ _ h⟩
    · obtain ⟨a1, a2, a3, h⟩ := h
      exact ⟨a1, a2, a3, k _ _ h⟩
    · exact h.elim
  | ext x i =>
    simp only [run1] at h ⊢
    generalize x.ev e = xv at h ⊢
    unfold extC at h ⊢
    split at h
    · obtain ⟨v, hv, h⟩ := h
      exact ⟨v, hv, k _ _ h⟩
    · exact h.elim
  | len x =>
    simp only [run1] at h ⊢
    generalize x.ev e = xv at h ⊢
    unfold lenC at h ⊢
    split at h
    · exact k _ _ h
    · exact k _ _ h
    · exact k _ _ h
    · exact h.elim
  | lens x =>
    simp only [run1] at h ⊢
    generalize x.ev e = xv at h ⊢
    unfold lensC at h ⊢
    split at h
    · exact k _ _ h
    · exact h.elim
  | app es bytes ty x y =>
    obtain ⟨h1, h2, h⟩ := h
    refine ⟨h1, h2, elemsK_mono (fun l h => ?_) h⟩
    generalize x.ev e = xv at h ⊢
    split at h
    · obtain ⟨a1, a2, a3, a4⟩ := h
      exact ⟨a1, a2, fun t => k _ _ (a3 t), fun t => k _ _ (a4 t)⟩
    · obtain ⟨a1, a2, o, a3, a4, a5, a6, a7, a8, a9, b1, b2, h⟩ := h
      exact ⟨a1, a2, o, a3, a4, a5, a6, a7, a8, a9, b1, b2, k _ _ h⟩
    · exact h.elim
  | mnx mx x xs =>
    obtain ⟨v, hv, hd⟩ := minmaxK_det (K := fun v => K v σ) h
    exact hd (fun v => K' v σ) (k _ _ hv)
  | slc es x lo hi =>
    simp only [run1, slcC] at h ⊢
    generalize x.ev e = xv at h ⊢
    unfold sliceK at h ⊢
    split at h
    · obtain ⟨p, q, _, hK, hd⟩ := bdsK_det h
      exact hd _ (k _ _ hK)
    · obtain ⟨h1, h⟩ := h
      obtain ⟨p, q, _, hK, hd⟩ := bdsK_det h
      exact ⟨h1, hd _ (k _ _ hK)⟩
    · obtain ⟨h1, h2, h⟩ := h
      obtain ⟨p, q, _, hK, hd⟩ := bdsK_det h
      exact ⟨h1, h2, hd _ ⟨fun t => k _ _ (hK.1 t), fun t => k _ _ (hK.2 t)⟩⟩
    · exact h.elim
  | slcs x lo hi =>
    simp only [run1, slcsC] at h ⊢
    generalize x.ev e = xv at h ⊢
    unfold sliceSK at h ⊢
    split at h
    · obtain ⟨p, q, _, hK, hd⟩ := bdsK_det h
      exact hd _ (k _ _ hK)
    · exact h.elim
  | call f args => exact HC.mono h k
  | callv x args =>
    simp only [run1] at h ⊢
    generalize x.ev e = xv at h ⊢
    unfold callvC at h ⊢
    split at h
    · exact HC.mono h k
    · exact h.elim
  | newsl es ty => exact k _ _ h
  | pu p xs =>
    obtain ⟨v, hv, h⟩ := h
    exact ⟨v, hv, k _ _ h⟩
  | isnil neg x =>
    simp only [run1] at h ⊢
    generalize x.ev e = xv at h ⊢
    unfold isnilC at h ⊢
    split at h
    · exact k _ _ h
    · exact ⟨k _ _ h.1, k _ _ h.2⟩
    · exact k _ _ h
    · exact ⟨fun t => ⟨k _ _ (h.1 t).1, k _ _ (h.1 t).2⟩, fun t => k _ _ (h.2 t)⟩
    · exact h.elim
  | mks mu es bytes ty z x =>
    simp only [run1] at h ⊢
    generalize x.ev e = xv at h ⊢
    unfold mksC at h ⊢
    split at h
    · obtain ⟨a1, a2, a3, h⟩ := h
      refine ⟨a1, a2, a3, ?_⟩
      cases mu <;> exact k _ _ h
    · exact h.elim
  | trn es x hh =>
    simp only [run1] at h ⊢
    generalize x.ev e = xv at h ⊢
    generalize hh.ev e = hv at h ⊢
    unfold trnC at h ⊢
    split at h
    · obtain ⟨a1, a2, a3, a4, o, a5, a6, a7, a8, a9, h⟩ := h
      exact ⟨a1, a2, a3, a4, o, a5, a6, a7, a8, a9, k _ _ h⟩
    · exact h.elim
  | cpy es x y =>
    obtain ⟨h1, h2, h⟩ := h
    refine ⟨h1, h2, elemsK_mono (fun l h => ?_) h⟩
    generalize x.ev e = xv at h ⊢
    split at h
    · exact k _ _ h
    · exact k _ _ h
    · obtain ⟨a1, o, a2, a3, a4, a5, a6, h⟩ := h
      exact ⟨a1, o, a2, a3, a4, a5, a6, k _ _ h⟩
    · exact h.elim
  | clr es z x =>
    simp only [run1] at h ⊢
    generalize x.ev e = xv at h ⊢
    unfold clrC at h ⊢
    split at h
    · exact k _ _ h
    · exact k _ _ h
    · obtain ⟨a1, o, a2, a3, a4, a5, a6, h⟩ := h
      exact ⟨a1, o, a2, a3, a4, a5, a6, k _ _ h⟩
    · exact h.elim
  | b2s x =>
    obtain ⟨h1, h2, h⟩ := h
    exact ⟨h1, h2, elemsK_mono (fun l ⟨s, hs, h⟩ => ⟨s, hs, k _ _ h⟩) h⟩
  | s2b mu ty x =>
    simp only [run1] at h ⊢
    generalize x.ev e = xv at h ⊢
    unfold s2bC at h ⊢
    split at h
    · refine ⟨h.1, ?_⟩
      cases mu <;> exact k _ _ h.2
    · exact h.elim
  | cvs x =>
    obtain ⟨s, hs, h⟩ := h
    exact ⟨s, hs, k _ _ h⟩
  | appz es bytes ty z x y =>
    simp only [run1] at h ⊢
    generalize x.ev e = xv at h ⊢
    generalize y.ev e = yv at h ⊢
    unfold appzC at h ⊢
    split at h
    · obtain ⟨a1, a2, a3, a4⟩ := h
      exact ⟨a1, a2, a3, k _ _ a4⟩
    · exact h.elim
  | appn es bytes ty y =>
    obtain ⟨h1, h2, h⟩ := h
    exact ⟨h1, h2, elemsK_mono (fun l ⟨a1, a2, h⟩ => ⟨a1, a2, k _ _ h⟩) h⟩
  | slc3 es x l h2 m =>
    simp only [run1] at h ⊢
    generalize x.ev e = xv at h ⊢
    generalize l.ev e = lv at h ⊢
    generalize h2.ev e = hv at h ⊢
    generalize m.ev e = mv at h ⊢
    unfold slc3C at h ⊢
    split at h
    · obtain ⟨a1, a2, a3, a4, a5, h⟩ := h
      exact ⟨a1, a2, a3, a4, a5, k _ _ h⟩
    · obtain ⟨a1, a2, a3, a4, a5, h⟩ := h
      exact ⟨a1, a2, a3, a4, a5, k _ _ h⟩
    · exact h.elim

theorem gdK_mono {s : Nat} {w : Bool} {A B A' B' : (Nat → AV) → St → Prop} {g : AV} {e : Nat → AV} {σ : St} (hA : A e σ → A' e σ) (hB : B e σ → B' e σ) (h : gdK s w A B g e σ) : gdK s w A' B' g e σ := by
  unfold gdK at h ⊢
  split at h
  · exact hB h
  · exact ⟨fun t => hA (h.1 t), fun t => hB (h.2 t)⟩
  · exact h.elim

/-- The slots that a text puts something into. -/
def wrs : ACode → List Nat
  | .skip => []
  | .region ops _ => ops.filterMap (·.d)
  | .seq a b => wrs a ++ wrs b
  | .cond _ a b => wrs a ++ wrs b
  | .block _ a => wrs a
  | .loop a => wrs a
  | .exit _ => []
  | .ret => []
def wrOK (a : ACode) (ws : List Nat) : Bool := (wrs a).all fun i => ws.contains i
/-- Outside of ws they are the same. -/
def Agr (ws : List Nat) (g e : Nat → AV) : Prop := ∀ i, i ∉ ws → e i = g i
theorem Agr.puts {ws : List Nat} {g e : Nat → AV} (h : Agr ws g e) {d : Option Nat} (hd : ∀ i, d = some i → i ∈ ws) (v : AV) : Agr ws g (puts e d v) := by
  intro i hi
  cases d with
  | none => exact h i hi
  | some j =>
    simp only [Go.Ab.puts]
    rw [upd_ne _ _ _ _ (fun e => hi (by rw [e]; exact hd j rfl))]
    exact h i hi

section
variable {P : Program} {ws : List Nat} {g : Nat → AV}
theorem runs_keep {k k' : (Nat → AV) → St → Prop} (hk : ∀ e σ, Agr ws g e → k e σ → k' e σ) : ∀ (ops : List AOper) (e : Nat → AV) (σ : St), (∀ o ∈ ops, ∀ i, o.d = some i → i ∈ ws) → Agr ws g e → runs (HC P) ops k e σ → runs (HC P) ops k' e σ
  | [], e, σ, _, ha, h => hk e σ ha h
  | o :: r, e, σ, hw, ha, h => by
    simp only [runs] at h ⊢
    have hd := hw o (by simp)
    have ih := fun e σ ha h => runs_keep hk r e σ (fun o ho => hw o (by simp [ho])) ha h
    split at h
    · exact run1_mono (fun v τ h => ih _ _ (ha.puts hd v) h) h
    · exact gdK_mono (fun h => run1_mono (fun v τ h => ih _ _ (ha.puts hd v) h) h) (fun h => ih _ _ (ha.puts hd (.tuple [])) h) h
theorem dop_mono {op : AOp} {af : List Nat} {rs vs : List (Nat × Nat)} {p n c : Nat} {kk kk' : List (Nat × Nat) → List (Nat × Nat) → AV → St → Prop} {e : Nat → AV} {ob : Nat → Option AObj} (k : ∀ R V v τ, kk R V v τ → kk' R V v τ) (h : dop (HC P) op af rs vs p n c kk e ob) : dop (HC P) op af rs vs p n c kk' e ob := by
  unfold dop at h ⊢
  split at h
  · obtain ⟨r, rd, wr, a1, a2, a3, h⟩ := h
    exact ⟨r, rd, wr, a1, a2, a3, k _ _ _ _ h⟩
  · obtain ⟨a1, a2, a3, h⟩ := h
    exact ⟨a1, a2, a3, run1_mono (fun v τ h => k _ _ _ _ h) h⟩
theorem druns_keep {n0 c0 k0 : Nat} {k k' : (Nat → AV) → St → Prop} (hk : ∀ e σ, Agr ws g e → k e σ → k' e σ) : ∀ (ops : List AOper) (p : Nat) (R V : List (Nat × Nat)) (e : Nat → AV) (σ : St), (∀ o ∈ ops, ∀ i, o.d = some i → i ∈ ws) → Agr ws g e → druns (HC P) n0 c0 k0 ops p k R V e σ → druns (HC P) n0 c0 k0 ops p k' R V e σ
  | [], p, R, V, e, σ, _, ha, h => hk e _ ha h
  | o :: r, p, R, V, e, σ, hw, ha, h => by
    simp only [druns] at h ⊢
    have hd := hw o (by simp)
    have ih := fun p R V e σ ha h => druns_keep (n0 := n0) (c0 := c0) (k0 := k0) hk r p R V e σ (fun o ho => hw o (by simp [ho])) ha h
    split at h
    · exact dop_mono (fun R V v τ h => ih _ _ _ _ _ (ha.puts hd v) h) h
    · exact gdK_mono (fun h => dop_mono (fun R V v τ h => ih _ _ _ _ _ (ha.puts hd v) h) h) (fun h => ih _ _ _ _ _ (ha.puts hd (.tuple [])) h) h
theorem wrs_ops {ops : List AOper} (h : ∀ i ∈ ops.filterMap (·.d), i ∈ ws) : ∀ o ∈ ops, ∀ i, o.d = some i → i ∈ ws := fun o ho i hi => h i (List.mem_filterMap.2 ⟨o, ho, hi⟩)

/-- **What is not put is kept.** -/
theorem awp_keep : ∀ (a : ACode) (Q Q' : awpK) (e : Nat → AV) (σ : St), (∀ i ∈ wrs a, i ∈ ws) → Agr ws g e → (∀ x e σ, Agr ws g e → Q x e σ → Q' x e σ) → awp (HC P) a Q e σ → awp (HC P) a Q' e σ
  | .skip, Q, Q', e, σ, hw, ha, hQ, h => hQ _ _ _ ha h
  | .exit _, Q, Q', e, σ, hw, ha, hQ, h => hQ _ _ _ ha h
  | .ret, Q, Q', e, σ, hw, ha, hQ, h => hQ _ _ _ ha h
  | .region ops dr, Q, Q', e, σ, hw, ha, hQ, h =>
    ⟨fun hd => runs_keep (hQ .nrm) ops e σ (wrs_ops hw) ha (h.1 hd), fun k hd => druns_keep (hQ .nrm) ops 0 [] [] e σ (wrs_ops hw) ha (h.2 k hd)⟩
  | .seq a b, Q, Q', e, σ, hw, ha, hQ, h => by
    refine awp_keep a (SeqQ (awp (HC P) b Q) Q) (SeqQ (awp (HC P) b Q') Q') e σ (fun i hi => hw i (List.mem_append_left _ hi)) ha (fun x e σ ha h => ?_) h
    cases x with
    | nrm => exact awp_keep b Q Q' e σ (fun i hi => hw i (List.mem_append_right _ hi)) ha hQ h
    | ret => exact hQ _ _ _ ha h
    | exit i => exact hQ _ _ _ ha h
  | .cond c a b, Q, Q', e, σ, hw, ha, hQ, h => by
    simp only [awp] at h ⊢
    unfold condK at h ⊢
    split at h
    · exact ⟨fun t => awp_keep a Q Q' e σ (fun i hi => hw i (List.mem_append_left _ hi)) ha hQ (h.1 t), fun t => awp_keep b Q Q' e σ (fun i hi => hw i (List.mem_append_right _ hi)) ha hQ (h.2 t)⟩
    · exact h.elim
  | .block id a, Q, Q', e, σ, hw, ha, hQ, h => by
    refine awp_keep a (BlockQ id Q) (BlockQ id Q') e σ hw ha (fun x e σ ha h => ?_) h
    cases x with
    | nrm => exact hQ _ _ _ ha h
    | ret => exact hQ _ _ _ ha h
    | exit i =>
      simp only [BlockQ] at h ⊢
      split
      · rename_i hi; rw [if_pos hi] at h; exact hQ _ _ _ ha h
      · rename_i hi; rw [if_neg hi] at h; exact hQ _ _ _ ha h
  | .loop a, Q, Q', e, σ, hw, ha, hQ, h => by
    obtain ⟨I, ⟨k0, h0⟩, h⟩ := h
    refine ⟨fun k e1 σ1 => Agr ws g e1 ∧ I k e1 σ1, ⟨k0, ha, h0⟩, ?_⟩
    rintro k e1 σ1 ⟨ha1, h1⟩
    refine awp_keep a (LoopQ σ.n k I Q) (LoopQ σ.n k (fun k e1 σ1 => Agr ws g e1 ∧ I k e1 σ1) Q') e1 σ1 hw ha1 (fun x e σ ha h => ?_) (h k e1 σ1 h1)
    cases x with
    | nrm => obtain ⟨k', hk', h'⟩ := h; exact ⟨k', hk', ha, h'⟩
    | ret => exact hQ _ _ _ ha h
    | exit i => exact hQ _ _ _ ha h
end

/-- The slots ws hold anything: what f says. -/
def hv (f : Nat → AV) (e : Nat → AV) : List Nat → Nat → AV
  | [] => e
  | i :: l => upd (hv f e l) i (f i)
theorem hv_of_agr {e e1 : Nat → AV} : ∀ {ws : List Nat}, Agr ws e e1 → e1 = hv e1 e ws := by
  intro ws h
  have key : ∀ (l : List Nat) (i : Nat), hv e1 e l i = if i ∈ l then e1 i else e i := by
    intro l
    induction l with
    | nil => intro i; simp [hv]
    | cons j l ih =>
      intro i
      simp only [hv]
      by_cases hij : i = j
      · subst hij; simp [upd_same]
      · rw [upd_ne _ _ _ _ hij, ih]; simp [hij]
  funext i
  rw [key]
  split
  · rfl
  · rename_i hi; exact h i hi
@[go_sem] theorem w_hv_nil (f e : Nat → AV) : hv f e [] = e := (rfl)
@[go_sem] theorem w_hv_cons (f e : Nat → AV) (i : Nat) (l : List Nat) : hv f e (i :: l) = upd (hv f e l) i (f i) := (rfl)

/-- Of what a function made, some is forgotten. -/
theorem HC.sub {P : Program} {σ : St} {f : Nat} {args : List AV} {R R' : AV → St → Prop} (h : HC P f args σ R) (k : ∀ r σ', R r σ' → ∃ ob, (∀ i o, ob i = some o → σ'.ob i = some o) ∧ R' r ⟨ob, σ'.n, σ'.c⟩) : HC P f args σ R' :=
  ⟨h.1, fun m S w vs hS hv => (h.2 m S w vs hS hv).mono fun _ _ ⟨r, σ', m', S', v, h1, h2, hI, h3⟩ => by
    obtain ⟨ob, hs, h4⟩ := k _ _ h2
    exact ⟨r, ⟨ob, σ'.n, σ'.c⟩, m', S', v, h1, h4, ⟨⟨hI.sim.fresh, fun k o ho => hI.sim.obj k o (hs k o ho), fun k k' o o' v v' b ho ho' => hI.sim.dist k k' o o' v v' b (hs k o ho) (hs k' o' ho'), hI.sim.lt⟩,
      ⟨hI.fr.os, hI.fr.tape, hI.fr.output, hI.fr.size, hI.fr.block, fun k o v b ho => hI.fr.own k o v b (hs k o ho), hI.fr.sub⟩⟩, h3⟩⟩
theorem ObjR.keep' {m : Mp} {S S' : Nat → Prop} {w : World} {o : AObj} {v : Value} (h : ObjR m S w o v) (hS : ∀ b, S b → S' b) : ObjR m S' w o v := by
  obtain ⟨h1, h2, xs, h3, h4⟩ := h
  exact ⟨h1, h2, xs, h3, h4.keep (Mp.le_refl m) hS (fun _ _ => rfl)⟩
/-- Objects that shall not be turned any more become plain lists. -/
theorem HC.seal {P : Program} {σ : St} {f : Nat} {args : List AV} {R R' : AV → St → Prop} (keep : Nat → Bool) (h : HC P f args σ R)
    (k : ∀ r σ', R r σ' → ∃ r2, Pub ⟨fun i => if keep i then none else σ'.ob i, σ'.n, σ'.c⟩ r r2 ∧ R' r2 ⟨fun i => if keep i then σ'.ob i else none, σ'.n, σ'.c⟩) : HC P f args σ R' := by
  refine ⟨h.1, fun m S w vs hS hv => (h.2 m S w vs hS hv).mono ?_⟩
  rintro x w' ⟨r, σ', m', S', v, rfl, hR, hI, hX, hV⟩
  obtain ⟨r2, hp, hR'⟩ := k r σ' hR
  have hs : ∀ i o, (if keep i then none else σ'.ob i) = some o → keep i = false ∧ σ'.ob i = some o := fun i o h => by
    cases hk : keep i <;> simp [hk] at h; exact ⟨rfl, h⟩
  have hs2 : ∀ i o, (if keep i then σ'.ob i else none) = some o → keep i = true ∧ σ'.ob i = some o := fun i o h => by
    cases hk : keep i <;> simp [hk] at h; exact ⟨rfl, h⟩
  have hsim : Sim m' S' ⟨fun i => if keep i then none else σ'.ob i, σ'.n, σ'.c⟩ w' :=
    ⟨hI.sim.fresh, fun k o ho => hI.sim.obj k o (hs k o ho).2, fun k k' o o' v v' b ho ho' => hI.sim.dist k k' o o' v v' b (hs k o ho).2 (hs k' o' ho').2, hI.sim.lt⟩
  refine ⟨r2, _, m', fun b => S' b ∨ allB m' ⟨fun i => if keep i then none else σ'.ob i, σ'.n, σ'.c⟩ b, v, rfl, hR', ⟨⟨hI.sim.fresh, fun k o ho => ?_, fun k k' o o' v v' b ho ho' => hI.sim.dist k k' o o' v v' b (hs2 k o ho).2 (hs2 k' o' ho').2, fun b hb => ?_⟩,
    ⟨hI.fr.os, hI.fr.tape, hI.fr.output, hI.fr.size, hI.fr.block, fun k o v b ho => hI.fr.own k o v b (hs2 k o ho).2, fun b hb => ?_⟩⟩, ?_, .pure (hV.pub hsim (fun b h => .inl h) (fun b h => .inr h) hp)⟩
  · obtain ⟨hk, ho⟩ := hs2 k o ho
    obtain ⟨v, h1, h2, h3⟩ := hI.sim.obj k o ho
    refine ⟨v, h1, h2.keep' (fun b h => .inl h), fun b hb => ⟨fun hr => .inl ((h3 b hb).1 hr), fun hr => ?_⟩⟩
    rintro (hh | ⟨k', o', v', ho', hm', hb'⟩)
    · exact (h3 b hb).2 hr hh
    · obtain ⟨hk', ho'⟩ := hs k' o' ho'
      exact hI.sim.dist k k' o o' v v' b ho ho' (fun e => by subst e; rw [hk] at hk'; cases hk') h1 hm' hb hb'
  · rcases hb with hb | ⟨k', o', v', ho', hm', hb'⟩
    · exact hI.sim.lt b hb
    · obtain ⟨hk', ho'⟩ := hs k' o' ho'
      obtain ⟨v2, h1, h2, _⟩ := hI.sim.obj k' o' ho'
      rw [hm'] at h1; obtain rfl := Option.some.inj h1
      exact ownBlock_lt h2 hb'
  · rcases hb with hb | ⟨k', o', v', ho', hm', hb'⟩
    · exact hI.fr.sub b hb
    · obtain ⟨hk', ho'⟩ := hs k' o' ho'
      cases hro : o'.ro with
      | true =>
        obtain ⟨v2, h1, _, h3⟩ := hI.sim.obj k' o' ho'
        rw [hm'] at h1; obtain rfl := Option.some.inj h1
        exact hI.fr.sub b ((h3 b hb').1 hro)
      | false => exact .inr (hI.fr.own k' o' v' b ho' hro hm' hb')
  · exact ⟨hX.le, fun b h => .inl (hX.sub b h), hX.keep⟩
section
variable {P : Program} {e : Nat → AV} {σ : St} {Q : awpK}
theorem LoopQ_mono {nn k : Nat} {I I' : Nat → (Nat → AV) → St → Prop} {ws : List Nat} {g : Nat → AV} (h : ∀ k e σ, Agr ws g e → I k e σ → I' k e σ) : ∀ x e σ, Agr ws g e → LoopQ nn k I Q x e σ → LoopQ nn k I' Q x e σ := by
  intro x e σ ha hh
  cases x with
  | nrm => obtain ⟨k', hk', h'⟩ := hh; exact ⟨k', hk', h _ _ _ ha h'⟩
  | ret => exact hh
  | exit i => exact hh
/-- A loop that counts up to n; only the slots ws are put. -/
theorem awp_upF {a : ACode} (ws : List Nat) (hws : wrOK a ws = true) (n : Nat) (J : Nat → (Nat → AV) → St → Prop) (h0 : J 0 e σ)
    (h : ∀ r f ob c, r ≤ n → J r (hv f e ws) ⟨ob, σ.n, c⟩ → awp (HC P) a (UpQ σ.n n r J Q) (hv f e ws) ⟨ob, σ.n, c⟩) : awp (HC P) (.loop a) Q e σ := by
  have hws' : ∀ i ∈ wrs a, i ∈ ws := fun i hi => by have := List.all_eq_true.1 hws i hi; simpa using this
  refine ⟨fun i e1 σ1 => Agr ws e e1 ∧ upI σ.n n J i e1 σ1, ⟨n, fun _ _ => rfl, rfl, 0, Nat.zero_le _, rfl, h0⟩, ?_⟩
  rintro i e1 ⟨ob, n', c⟩ ⟨ha, hn, r, hr, rfl, hJ⟩
  simp only at hn
  subst hn
  refine awp_keep a _ _ e1 _ hws' ha (LoopQ_mono fun k e σ ha h => ⟨ha, h⟩) ?_
  have he := hv_of_agr ha
  rw [he] at hJ ⊢
  exact h r e1 ob c hr hJ
/-- Any loop; only the slots ws are put. -/
theorem awp_loopF {a : ACode} (ws : List Nat) (hws : wrOK a ws = true) (I : Nat → (Nat → AV) → St → Prop) (k0 : Nat) (h0 : I k0 e σ)
    (h : ∀ r f ob c, I r (hv f e ws) ⟨ob, σ.n, c⟩ → awp (HC P) a (LoopQ σ.n r (fun r e1 σ1 => σ1.n = σ.n ∧ I r e1 σ1) Q) (hv f e ws) ⟨ob, σ.n, c⟩) : awp (HC P) (.loop a) Q e σ := by
  have hws' : ∀ i ∈ wrs a, i ∈ ws := fun i hi => by have := List.all_eq_true.1 hws i hi; simpa using this
  refine ⟨fun r e1 σ1 => Agr ws e e1 ∧ σ1.n = σ.n ∧ I r e1 σ1, ⟨k0, fun _ _ => rfl, rfl, h0⟩, ?_⟩
  rintro r e1 ⟨ob, n', c⟩ ⟨ha, hn, hI⟩
  simp only at hn
  subst hn
  refine awp_keep a _ _ e1 _ hws' ha (LoopQ_mono fun k e σ ha h => ⟨ha, h⟩) ?_
  have he := hv_of_agr ha
  rw [he] at hI ⊢
  exact h r e1 ob c hI
/-- A text that ends in the same way whichever way it went: what is known there. -/
theorem awp_cut {a : ACode} {K : (Nat → AV) → St → Prop} (ws : List Nat) (hws : wrOK a ws = true) (R : (Nat → AV) → St → Prop)
    (h : awp (HC P) a (SeqQ R Q) e σ) (hk : ∀ f σ1, R (hv f e ws) σ1 → K (hv f e ws) σ1) : awp (HC P) a (SeqQ K Q) e σ := by
  have hwa : ∀ i ∈ wrs a, i ∈ ws := fun i hi => by have := List.all_eq_true.1 hws i hi; simpa using this
  refine awp_keep a _ _ e σ hwa (fun _ _ => rfl) (fun x e1 σ1 ha h => ?_) h
  cases x with
  | nrm =>
    have he := hv_of_agr ha
    simp only [SeqQ] at h ⊢
    rw [he] at h ⊢
    exact hk _ _ h
  | ret => exact h
  | exit i => exact h
/-- Two ways that come together again: what is known there. -/
theorem cond_cut {c : AV} {a b : ACode} {K : (Nat → AV) → St → Prop} (ws : List Nat) (hws : (wrOK a ws && wrOK b ws) = true) (R : (Nat → AV) → St → Prop)
    (h : condK c (awp (HC P) a (SeqQ R Q)) (awp (HC P) b (SeqQ R Q)) e σ) (hk : ∀ f σ1, R (hv f e ws) σ1 → K (hv f e ws) σ1) : condK c (awp (HC P) a (SeqQ K Q)) (awp (HC P) b (SeqQ K Q)) e σ := by
  simp only [Bool.and_eq_true] at hws
  have hwa : ∀ i ∈ wrs a, i ∈ ws := fun i hi => by have := List.all_eq_true.1 hws.1 i hi; simpa using this
  have hwb : ∀ i ∈ wrs b, i ∈ ws := fun i hi => by have := List.all_eq_true.1 hws.2 i hi; simpa using this
  have key : ∀ x e1 σ1, Agr ws e e1 → SeqQ R Q x e1 σ1 → SeqQ K Q x e1 σ1 := by
    intro x e1 σ1 ha h
    cases x with
    | nrm =>
      have he := hv_of_agr ha
      simp only [SeqQ] at h ⊢
      rw [he] at h ⊢
      exact hk _ _ h
    | ret => exact h
    | exit i => exact h
  unfold condK at h ⊢
  split at h
  · exact ⟨fun t => awp_keep a _ _ e σ hwa (fun _ _ => rfl) key (h.1 t), fun t => awp_keep b _ _ e σ hwb (fun _ _ => rfl) key (h.2 t)⟩
  · exact h.elim
end
end Go.Ab
