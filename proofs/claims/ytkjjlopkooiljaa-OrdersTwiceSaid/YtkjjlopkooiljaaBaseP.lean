/-
  OWN WORK. THE BASE, PART P: a walk of the code is sound.
-/
import Derived.Test.YtkjjlopkooiljaaBaseT
namespace Go.Ab
open Go.RowKit

section
variable {P : Program} {W : World} {O S0 : Nat → Prop} {m : Mp} {S : Nat → Prop} {σ : St} {w : World} {e : Nat → AV} {a : Act} {K : AV → St → Prop} {Q : Exit → Act → World → Prop}

/-- A loop whose rounds come down. -/
theorem wp_loop_wf {P : Program} {Q : Exit → Act → World → Prop} {a : Act} {w : World} {c : Code} (R : Nat → Act → World → Prop) (k0 : Nat) (h₀ : R k0 a w)
    (round : ∀ k a w, R k a w → c.wp P (Exit.then (fun a' w' => ∃ k', k' < k ∧ R k' a' w') Q) a w) : (Code.loop c).wp P Q a w := by
  intro b k cs
  have key : ∀ n a w, R n a w → ∃ e a' w', Q e a' w' ∧ Arrives P (lone (b.at a (.code c :: .inLoop c :: k)) cs w) b k cs e a' w' := by
    intro n
    induction n using Nat.strongRecOn with
    | _ n ih =>
      intro a w hR
      obtain ⟨e, a₁, w₁, hq, harr⟩ := round n a w hR b (.inLoop c :: k) cs
      cases e with
      | normal =>
        obtain ⟨k', hlt, hR₁⟩ := hq
        obtain ⟨e₂, a₂, w₂, hq₂, harr₂⟩ := ih k' hlt a₁ w₁ hR₁
        exact ⟨e₂, a₂, w₂, hq₂, .of_steps (Steps.trans harr (.one step_inLoop)) harr₂⟩
      | exit id => exact ⟨_, a₁, w₁, hq, .pass (x := .inLoop c) rfl (fun _ _ => .inl (by simp)) harr⟩
      | goto l => exact ⟨_, a₁, w₁, hq, .pass (x := .inLoop c) rfl (fun _ _ => .inl (by simp)) harr⟩
      | ret => exact ⟨_, a₁, w₁, hq, .pass (x := .inLoop c) rfl (fun _ _ => .inl (by simp)) harr⟩
      | panic ch => exact ⟨_, a₁, w₁, hq, .pass (x := .inLoop c) rfl (fun _ _ => .inl (by simp)) harr⟩
      | outgrown => exact ⟨_, a₁, w₁, hq, .pass (x := .inLoop c) rfl (fun _ _ => .inl (by simp)) harr⟩
  obtain ⟨e, a', w', hq, harr⟩ := key _ a w h₀
  exact ⟨e, a', w', hq, .of_steps (.one step_loop) harr⟩

/-- How the abstract exits stand to the model's. -/
def exitOf : EX → Exit
  | .nrm => .normal
  | .ret => .ret
  | .exit id => .exit id

/-- **A walk is sound.** -/
theorem awp_sound {mt : List Nat} {n : Nat} : ∀ (c : Code) (ac : ACode), comp P mt n c = some ac →
    ∀ {m : Mp} {S : Nat → Prop} {σ : St} {w : World} {e : Nat → AV} {a : Act} {Qa : awpK} {Q : Exit → Act → World → Prop}, EnvI W O S0 m S σ w n e a → awp (HC P) ac Qa e σ →
    (∀ x m' S' σ' w' e' a', EnvI W O S0 m' S' σ' w' n e' a' → Ext m S w m' S' w' → Qa x e' σ' → Q (exitOf x) a' w') → c.wp P Q a w := by
  intro c
  induction c with
  | skip =>
    intro ac hc m S σ w e a Qa Q hI h hQ
    simp only [comp, Option.some.injEq] at hc; subst hc
    exact wp_skip (hQ .nrm m S σ w e a hI (Ext.refl m S w) h)
  | ret =>
    intro ac hc m S σ w e a Qa Q hI h hQ
    simp only [comp, Option.some.injEq] at hc; subst hc
    exact wp_ret (hQ .ret m S σ w e a hI (Ext.refl m S w) h)
  | exit id =>
    intro ac hc m S σ w e a Qa Q hI h hQ
    simp only [comp, Option.some.injEq] at hc; subst hc
    exact wp_exit (hQ (.exit id) m S σ w e a hI (Ext.refl m S w) h)
  | region id ops draw =>
    intro ac hc m S σ w e a Qa Q hI h hQ
    simp only [comp, compReg] at hc
    cases draw with
    | true =>
      simp only [if_true] at hc
      split at hc
      · rename_i l hl
        split at hc
        · rename_i hok
          simp only [Option.some.injEq] at hc; subst hc
          simp only [Bool.and_eq_true] at hok
          exact region_heavy hok.1.2 hl hok.2 hI h fun m' S' σ' w' e' a' q1 q2 q3 => hQ .nrm m' S' σ' w' e' a' q1 q2 q3
        split at hc
        · rename_i hok
          simp only [Option.some.injEq] at hc; subst hc
          simp only [Bool.and_eq_true] at hok
          exact region_draw hok.1 hl hok.2 hI (h.2 _ rfl) fun m' S' σ' w' e' a' q1 q2 q3 => hQ .nrm m' S' σ' w' e' a' q1 q2 q3
        · cases hc
      · cases hc
    | false =>
      simp only [Bool.false_eq_true, if_false] at hc
      obtain ⟨l, hl, rfl⟩ := Option.map_eq_some_iff.1 hc
      refine wp_region (runs_sound ops (List.range ops.size) [] ops.toList l ?_ (by simp) hl _ _ _ _ _ _ _ hI (h.1 rfl) fun m' S' σ' w' e' a' q1 q2 q3 => hQ .nrm m' S' σ' w' e' a' q1 q2 q3)
      intro k i hk
      obtain ⟨h1, h2⟩ := List.getElem?_eq_some_iff.1 hk
      simp at h1 h2
      subst h2
      simp
  | seq x y ihx ihy =>
    intro ac hc m S σ w e a Qa Q hI h hQ
    simp only [comp] at hc
    split at hc
    · rename_i a1 b1 h1 h2
      simp only [Option.some.injEq] at hc; subst hc
      refine wp_seq (ihx _ h1 hI h ?_)
      intro z m' S' σ' w' e' a' q1 q2 q3
      cases z with
      | nrm => exact ihy _ h2 q1 q3 fun z2 m2 S2 σ2 w2 e2 a2 p1 p2 p3 => hQ z2 m2 S2 σ2 w2 e2 a2 p1 (q2.trans p2) p3
      | ret => exact hQ .ret m' S' σ' w' e' a' q1 q2 q3
      | exit id => exact hQ (.exit id) m' S' σ' w' e' a' q1 q2 q3
    · cases hc
  | cond x y z ihy ihz =>
    intro ac hc m S σ w e a Qa Q hI h hQ
    simp only [comp] at hc
    split at hc
    · rename_i c1 a1 b1 h0 h1 h2
      simp only [Option.some.injEq] at hc; subst hc
      simp only [awp] at h
      generalize ht : c1.ev e = g at h
      unfold condK at h
      split at h
      · rename_i t
        have hv := ax_sound hI.2.1 h0
        rw [ht] at hv
        refine wp_cond hv.of_bool ?_
        cases t with
        | true => exact ihy _ h1 hI (h.1 rfl) hQ
        | false => exact ihz _ h2 hI (h.2 rfl) hQ
      · exact h.elim
    · cases hc
  | block id x ih =>
    intro ac hc m S σ w e a Qa Q hI h hQ
    simp only [comp] at hc
    obtain ⟨a1, h1, rfl⟩ := Option.map_eq_some_iff.1 hc
    refine wp_block (ih _ h1 hI h ?_)
    intro z m' S' σ' w' e' a' q1 q2 q3
    cases z with
    | nrm => exact hQ .nrm m' S' σ' w' e' a' q1 q2 q3
    | ret => exact hQ .ret m' S' σ' w' e' a' q1 q2 q3
    | exit i =>
      simp only [exitOf, Exit.inBlock]
      simp only [BlockQ] at q3
      split
      · rename_i hi
        simp only [hi, if_true] at q3
        exact hQ .nrm m' S' σ' w' e' a' q1 q2 q3
      · rename_i hi
        simp only [hi, if_false] at q3
        exact hQ (.exit i) m' S' σ' w' e' a' q1 q2 q3
  | loop x ih =>
    intro ac hc m S σ w e a Qa Q hI h hQ
    simp only [comp] at hc
    obtain ⟨a1, h1, rfl⟩ := Option.map_eq_some_iff.1 hc
    obtain ⟨I, ⟨k0, h0⟩, hr⟩ := h
    refine wp_loop_wf (fun k a2 w1 => ∃ m1 S1 σ1 e1, EnvI W O S0 m1 S1 σ1 w1 n e1 a2 ∧ Ext m S w m1 S1 w1 ∧ I k e1 σ1) k0 ⟨m, S, σ, e, hI, Ext.refl m S w, h0⟩ ?_
    rintro k a2 w1 ⟨m1, S1, σ1, e1, hI1, hX1, hi1⟩
    refine ih _ h1 hI1 (hr k e1 σ1 hi1) ?_
    intro z m' S' σ' w' e' a' q1 q2 q3
    cases z with
    | nrm =>
      obtain ⟨k', hk', nt, _, hI'⟩ := q3
      exact ⟨k', hk', m', S', σ'.trunc nt, e', ⟨q1.1.trunc nt, q1.2⟩, hX1.trans q2, hI'⟩
    | ret => exact hQ .ret m' S' σ' w' e' a' q1 (hX1.trans q2) q3
    | exit i => exact hQ (.exit i) m' S' σ' w' e' a' q1 (hX1.trans q2) q3
  | rangeFunc => intro ac hc; simp [comp] at hc
  | scope => intro ac hc; simp [comp] at hc
  | label => intro ac hc; simp [comp] at hc
  | goto => intro ac hc; simp [comp] at hc
  | refuse => intro ac hc; simp [comp] at hc
end
end Go.Ab
