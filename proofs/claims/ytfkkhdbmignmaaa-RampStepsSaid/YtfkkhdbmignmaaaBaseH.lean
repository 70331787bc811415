/-
  OWN WORK. THE BASE, PART H: every operation, soundly (the rest).
-/
import Derived.Test.YtfkkhdbmignmaaaBaseG
import Derived.Laws.Strings
import Derived.Laws.Small
namespace Go.Ab
open Go.RowKit

section
variable {P : Program} {W : World} {O S0 : Nat → Prop} {m : Mp} {S : Nat → Prop} {σ : St} {w : World} {e : Nat → AV} {a : Act} {o : Oper} {K : AV → St → Prop} {Q : Exit → Act → World → Prop} {g0 : Nat}

theorem VR.of_ptr {id g es i off : Nat} {v : Value} (h : VR m S w (.ptr id g es i off) v) : ∃ b len cap, m g = some (.slice (some ⟨b, 0, none⟩) len cap) ∧ v = .pointer (some ⟨b, i * es + off, none⟩) := by
  cases h with
  | pure h => cases h
  | ptr h => exact ⟨_, _, _, h, rfl⟩
theorem VR.of_rptr {es i off : Nat} {l : List AV} {v : Value} (h : VR m S w (.rptr es l i off) v) : ∃ b q, v = .pointer (some ⟨b, q + off, none⟩) ∧
    ∀ off', VR m S w (.rptr es l i off') (.pointer (some ⟨b, q + off', none⟩)) := by
  cases h with
  | pure h =>
    cases h with
    | rptr f hS hc hw hv => exact ⟨_, _, rfl, fun off' => .pure (.rptr f hS hc hw hv)⟩

theorem s_nilchk {x : Operand} {y : AX} (hI : Inv W O S0 m S σ w) (hE : EnvR m S w e a.tmps) (ho : o.op = .nilCheck x) (hc : ax x = some y) (h : run1 (HC P) (.nilchk y) e σ K) :
    o.wp P a w (Good W O S0 m S w g0 o a K) Q := by
  have hv := ax_sound hE hc
  simp only [run1] at h
  generalize g0_ : y.ev e = G0_ at h
  unfold nilchkC at h
  split at h
  · have hx := g0_
    have hv' := hv
    rw [hx] at hv'
    obtain ⟨b, _, _, _, e1⟩ := hv'.of_ptr
    exact good_same (v := a.eval x) hI (by simp [execOp, ho, e1]) h hv'
  · have hx := g0_
    have hv' := hv
    rw [hx] at hv'
    obtain ⟨b, q, e1, _⟩ := hv'.of_rptr
    exact good_same (v := a.eval x) hI (by simp [execOp, ho, e1]) h hv'
  · have hx := g0_
    have hv' := hv
    rw [hx] at hv'
    obtain ⟨vs, e1, _⟩ := hv'.of_func
    exact good_same (v := a.eval x) hI (by simp [execOp, ho, e1]) h hv'
  · exact h.elim

theorem int_beq (p q : Int) : (p == q) = decide (p = q) := by by_cases h : p = q <;> simp [h]
theorem beq_bytes (x y : ByteArray) : (x.toList == y.toList) = decide (x = y) := by
  rw [ByteArray.toList_eq, ByteArray.toList_eq]
  by_cases hxy : x = y
  · subst hxy; simp
  · have : x.data.toList ≠ y.data.toList := fun hh => hxy (by cases x; cases y; congr 1; exact Array.toList_inj.1 hh)
    simp only [hxy, decide_false, beq_eq_false_iff_ne]
    exact this

theorem s_bin {op : BinOp} {t t' : TypeId} {x y : Operand} {x' y' : AX} (hI : Inv W O S0 m S σ w) (hE : EnvR m S w e a.tmps) (ho : o.op = .binOp op t x y t') (h1 : ax x = some x') (h2 : ax y = some y')
    (h : run1 (HC P) (.bin op x' y') e σ K) : o.wp P a w (Good W O S0 m S w g0 o a K) Q := by
  have hx := ax_sound hE h1
  have hy := ax_sound hE h2
  simp only [run1, binC] at h
  generalize g0_ : x'.ev e = G0_ at h
  generalize g1_ : y'.ev e = G1_ at h
  unfold binK at h
  split at h
  · rename_i k p k' q
    have e1 := g0_
    have e2 := g1_
    rw [e1] at hx; rw [e2] at hy
    have hx := hx.of_int
    have hy := hy.of_int
    have hg : ∀ op, (eqGuard op t x y (.int k p) (.int k' q)).run P w = .ok () w := fun op => by
      unfold eqGuard; cases op <;> rfl
    have hb : ∀ {v : Value}, (binOp op t (.int k p) (.int k' q)).run P w = .ok v w → (execOp a.eval o).run P w = .ok (.value v) w := fun {v} hv => by
      simp [execOp, ho, hx, hy, hg, hv]
    split at h
    · obtain ⟨rfl, hK⟩ := h
      exact good_same (hI := hI) (hb (by simp [binOp, Op.intArith])) hK (.pure (.int _ _))
    · obtain ⟨rfl, hK⟩ := h
      exact good_same (hI := hI) (hb (by simp [binOp, Op.intArith])) hK (.pure (.int _ _))
    · obtain ⟨rfl, hK⟩ := h
      exact good_same (hI := hI) (hb (by simp [binOp, Op.intArith])) hK (.pure (.int _ _))
    · obtain ⟨rfl, hq, hK⟩ := h
      exact good_same (hI := hI) (hb (by simp [binOp, Op.intDiv, hq])) hK (.pure (.int _ _))
    · obtain ⟨rfl, hq, hK⟩ := h
      exact good_same (hI := hI) (hb (by simp [binOp, Op.intDiv, hq])) hK (.pure (.int _ _))
    · obtain ⟨rfl, hK⟩ := h
      exact good_same (hI := hI) (v := .bool (decide (p = q))) (hb (by simp [binOp, Op.intCmp, int_beq])) hK (.pure (.bool _))
    · obtain ⟨rfl, hK⟩ := h
      exact good_same (hI := hI) (v := .bool (!decide (p = q))) (hb (by simp [binOp, Op.intCmp, bne, int_beq])) hK (.pure (.bool _))
    · obtain ⟨rfl, hK⟩ := h
      exact good_same (hI := hI) (v := .bool (decide (p < q))) (hb (by simp [binOp, Op.intCmp])) hK (.pure (.bool _))
    · obtain ⟨rfl, hK⟩ := h
      exact good_same (hI := hI) (v := .bool (decide (p ≤ q))) (hb (by simp [binOp, Op.intCmp])) hK (.pure (.bool _))
    · obtain ⟨rfl, hK⟩ := h
      exact good_same (hI := hI) (v := .bool (decide (q < p))) (hb (by simp [binOp, Op.intCmp])) hK (.pure (.bool _))
    · obtain ⟨rfl, hK⟩ := h
      exact good_same (hI := hI) (v := .bool (decide (q ≤ p))) (hb (by simp [binOp, Op.intCmp])) hK (.pure (.bool _))
    · exact h.elim
  · rename_i p q
    have e1 := g0_
    have e2 := g1_
    rw [e1] at hx; rw [e2] at hy
    have hx := hx.of_str
    have hy := hy.of_str
    have hg : ∀ op, (eqGuard op t x y (.string p) (.string q)).run P w = .ok () w := fun op => by
      unfold eqGuard; cases op <;> rfl
    split at h
    case h_4 => exact h.elim
    · obtain ⟨hl, hK⟩ := h
      have hm : ¬ IntKind.i64.max < ((p.size + q.size : Nat) : Int) := by simp [IntKind.max, IntKind.signed, IntKind.bits]; omega
      exact good_same (v := .string (p ++ q)) hI (by simp [execOp, ho, hx, hy, hg, binOp, Op.stringOp]; simpa using hm) hK (.pure (.str _))
    · exact good_same (v := .bool (decide (p = q))) hI (by simp [execOp, ho, hx, hy, hg, binOp, Op.stringOp, beq_bytes]) h (.pure (.bool _))
    · exact good_same (v := .bool (!decide (p = q))) hI (by simp [execOp, ho, hx, hy, hg, binOp, Op.stringOp, beq_bytes]) h (.pure (.bool _))
  · exact h.elim

theorem s_eqb {neg : Bool} {t t' : TypeId} {x y : Operand} {x' y' : AX} (hI : Inv W O S0 m S σ w) (hE : EnvR m S w e a.tmps) (ho : o.op = .binOp (if neg then .neq else .eql) t x y t')
    (hu : P.underlying t = some .bool) (h1 : ax x = some x') (h2 : ax y = some y') (h : run1 (HC P) (.eqb neg x' y') e σ K) : o.wp P a w (Good W O S0 m S w g0 o a K) Q := by
  have hx := ax_sound hE h1
  have hy := ax_sound hE h2
  simp only [run1] at h
  generalize g0_ : x'.ev e = G0_ at h
  generalize g1_ : y'.ev e = G1_ at h
  unfold eqbC at h
  split at h
  · rename_i p q
    have e1 := g0_
    have e2 := g1_
    rw [e1] at hx; rw [e2] at hy
    have hx := hx.of_bool
    have hy := hy.of_bool
    have hg : ∀ op, (eqGuard op t x y (.bool p) (.bool q)).run P w = .ok () w := fun op => by
      unfold eqGuard; cases op <;> rfl
    have he := run_equal_bool (P := P) w t p q hu
    cases neg with
    | true => exact good_same (v := .bool (!decide (p = q))) hI (by simp [execOp, ho, hx, hy, hg, binOp, he]; cases p <;> cases q <;> rfl) h (.pure (.bool _))
    | false => exact good_same (v := .bool (decide (p = q))) hI (by simp [execOp, ho, hx, hy, hg, binOp, he]; cases p <;> cases q <;> rfl) h (.pure (.bool _))
  · exact h.elim

theorem s_un {op : UnOp} {t : TypeId} {x : Operand} {y : AX} (hI : Inv W O S0 m S σ w) (hE : EnvR m S w e a.tmps) (ho : o.op = .unOp op t x) (hc : ax x = some y) (h : run1 (HC P) (.un op y) e σ K) :
    o.wp P a w (Good W O S0 m S w g0 o a K) Q := by
  have hv := ax_sound hE hc
  simp only [run1] at h
  generalize g0_ : y.ev e = G0_ at h
  unfold unC at h
  split at h
  · have hx := g0_
    rw [hx] at hv
    have hv := hv.of_bool
    exact good_same hI (by simp [execOp, ho, hv, Op.unary]) h (.pure (.bool _))
  · have hx := g0_
    rw [hx] at hv
    have hv := hv.of_int
    exact good_same hI (by simp only [execOp, ho, hv, Op.unary, Op.intArith]; rfl) h (.pure (.int _ _))
  · exact h.elim

theorem s_conv {s t : TypeId} {k k' : IntKind} {x : Operand} {y : AX} (hI : Inv W O S0 m S σ w) (hE : EnvR m S w e a.tmps) (ho : o.op = .convert s t x) (hs : P.underlying s = some (.int k')) (ht : P.underlying t = some (.int k))
    (hc : ax x = some y) (h : run1 (HC P) (.conv k y) e σ K) : o.wp P a w (Good W O S0 m S w g0 o a K) Q := by
  have hv := ax_sound hE hc
  simp only [run1] at h
  generalize g0_ : y.ev e = G0_ at h
  unfold convC at h
  split at h
  · have hx := g0_
    rw [hx] at hv
    have hv := hv.of_int
    exact good_same hI (by simp [execOp, ho, hv, convert, run_underlying hs, run_underlying ht, Conv.intToInt]) h (.pure (.int _ _))
  · exact h.elim

theorem s_mkf {f : Nat} {caps : Array Operand} {ys : List AX} (hI : Inv W O S0 m S σ w) (hE : EnvR m S w e a.tmps) (ho : o.op = .makeFunc (.func f) #[] caps) (hc : axs caps.toList = some ys) (h : run1 (HC P) (.mkf f ys) e σ K) :
    o.wp P a w (Good W O S0 m S w g0 o a K) Q := by
  have hv := axs_sound hE hc
  exact good_same (v := .func (.func f) #[] (caps.map a.eval)) hI (by simp [execOp, ho, Instr.makeFunc]) h (VR.mk_func (by simpa [evs] using hv))

theorem s_fa {t : TypeId} {x : Operand} {y : AX} {fields : Array Field} {n : Nat} {f : Field} {i : TypeInfo} (hI : Inv W O S0 m S σ w) (hE : EnvR m S w e a.tmps) (ho : o.op = .fieldAddr t x n)
    (hu : P.underlying t = some (.struct fields)) (hf : fields[n]? = some f) (hi : P.info? f.type = some i) (hp : 0 < i.size) (hc : ax x = some y) (h : run1 (HC P) (.fa f.offset y) e σ K) :
    o.wp P a w (Good W O S0 m S w g0 o a K) Q := by
  have hv := ax_sound hE hc
  have hne : ¬ i.size = 0 := by omega
  simp only [run1] at h
  generalize g0_ : y.ev e = G0_ at h
  unfold faC at h
  split at h
  · rename_i id g es ix off
    have hx := g0_
    rw [hx] at hv
    obtain ⟨b, len, cap, hm, e1⟩ := hv.of_ptr
    refine good_same (v := .pointer (some ⟨b, ix * es + (off + f.offset), none⟩)) hI ?_ h (VR.ptr hm)
    simp [execOp, ho, e1, Instr.fieldAt, run_underlying hu, hf, Instr.sureAddr, fieldPlace, run_sizeOf' hi, hne, Addr.add_lit, Nat.add_assoc]
  · rename_i es l ix off
    have hx := g0_
    rw [hx] at hv
    obtain ⟨b, q, e1, hh⟩ := hv.of_rptr
    refine good_same (v := .pointer (some ⟨b, q + (off + f.offset), none⟩)) hI ?_ h (hh _)
    simp [execOp, ho, e1, Instr.fieldAt, run_underlying hu, hf, Instr.sureAddr, fieldPlace, run_sizeOf' hi, hne, Addr.add_lit, Nat.add_assoc]
  · exact h.elim

theorem s_ext {x : Operand} {y : AX} {i : Nat} (hI : Inv W O S0 m S σ w) (hE : EnvR m S w e a.tmps) (ho : o.op = .extract x i) (hc : ax x = some y) (h : run1 (HC P) (.ext y i) e σ K) :
    o.wp P a w (Good W O S0 m S w g0 o a K) Q := by
  have hv := ax_sound hE hc
  simp only [run1] at h
  generalize g0_ : y.ev e = G0_ at h
  unfold extC at h
  split at h
  · rename_i vs
    have hx := g0_
    rw [hx] at hv
    obtain ⟨us, e1, hus⟩ := hv.of_tuple
    obtain ⟨v, hv', hK⟩ := h
    obtain ⟨u, hu, hr⟩ := hus.get hv'
    have hu' : us[i]? = some u := by simpa using hu
    exact good_same (v := u) hI (by simp [execOp, ho, e1, Instr.extract, hu']) hK hr
  · exact h.elim

end
end Go.Ab
