/-
  No cell of these rows narrows 'for every input' (looked for: loops, veiled, ifaces, maps, wideKeys, modest, calm, conditions, laid).
  DERIVED. THE GIVEN ROWS OF THIS SEAT. 4 by the template 'for every input the law returns true; each argument reads behind the call as it read before'; 0 by the template 'total and deterministic' (their statements: YtpdfbkeholfdaaaTotals.lean).
  GIVEN WITH THE SEED: the statements are not yours to turn. If you find one false, say at which input.
  Laid BY PROGRAM, IN A SANDBOX (cutbox-rows.mjs): the forced cells as the released guide's own fill.sh prints them over the translation 38aafc810461d961… (all of the seat's roots in one cut). By AI agents, Wed Nov 11 2026. No macro, syntax, notation, axiom, sorry.
-/
import Derived.Test.YtpdfbkeholfdaaaChecked
import GoSem.Claim
import GoSem.ClaimJoined
import GoSem.ClaimMapViews
import Derived.JoinedTies
import Derived.KernelRfl
namespace Go.Proofs.Ytpdfbkeholfdaaa
/- THE CELL 'sum', in the pinned program and in every row, IS THE sha256 OF THE DUMP (.gsa) THAT YtpdfbkeholfdaaaProg.lean LOADS. Nothing in Lean hashes anything: it is a label: what it is worth is what the hold of that sum in a sandbox is worth. -/
noncomputable def Try.pinned : Pinned := { name := "ytpdfbkeholfdaaa", sum := "38aafc810461d9616fa39090878e0d48cdde4739b1f8399f125bfeff60bc60f4", checked := Try.checked }
namespace Rows
def none {H : Type} : Left H := { results := [], args := [] }

/-- 'hydrocascadelaw26.DeviationTwo': WHATEVER THE INPUT: true; the input reads as it did. -/
def deviationTwoSpec : ChangeSpec := { name := "deviationTwo", fn := fun _ => fun
  | [d] => { results := [.lit (.bool true)], args := [d] }
  | _ => none }
def deviationTwoRow : OpenClaim := { program := "ytpdfbkeholfdaaa", sum := "38aafc810461d9616fa39090878e0d48cdde4739b1f8399f125bfeff60bc60f4", func := "hydrocascade/hydrocascadelaw26.DeviationTwo", spec := "deviationTwo", unfollowed := true, recurses := true, apart := false }
def DeviationTwoSaid : Prop := deviationTwoRow.holds Try.pinned (OpenSpec.ofChange deviationTwoSpec)

/-- ITS FALSE NEIGHBOUR: 'it returns false'. Refute it at one input. -/
def deviationTwoWrong : ChangeSpec := { name := "deviationTwo", fn := fun _ => fun
  | [d] => { results := [.lit (.bool false)], args := [d] }
  | _ => none }
def DeviationTwoWrongFalsely : Prop := deviationTwoRow.holds Try.pinned (OpenSpec.ofChange deviationTwoWrong)

/-- 'hydrocascadelaw26.DeviationCodes': WHATEVER THE INPUT: true; the input reads as it did. -/
def deviationCodesSpec : ChangeSpec := { name := "deviationCodes", fn := fun _ => fun
  | [d1, d2, d3] => { results := [.lit (.bool true)], args := [d1, d2, d3] }
  | _ => none }
def deviationCodesRow : OpenClaim := { program := "ytpdfbkeholfdaaa", sum := "38aafc810461d9616fa39090878e0d48cdde4739b1f8399f125bfeff60bc60f4", func := "hydrocascade/hydrocascadelaw26.DeviationCodes", spec := "deviationCodes", unfollowed := true, recurses := true, apart := false }
def DeviationCodesSaid : Prop := deviationCodesRow.holds Try.pinned (OpenSpec.ofChange deviationCodesSpec)

/-- ITS FALSE NEIGHBOUR: 'it returns false'. Refute it at one input. -/
def deviationCodesWrong : ChangeSpec := { name := "deviationCodes", fn := fun _ => fun
  | [d1, d2, d3] => { results := [.lit (.bool false)], args := [d1, d2, d3] }
  | _ => none }
def DeviationCodesWrongFalsely : Prop := deviationCodesRow.holds Try.pinned (OpenSpec.ofChange deviationCodesWrong)

/-- 'hydrocascadelaw26.DeviationDoes': WHATEVER THE INPUT: true; the input reads as it did. -/
def deviationDoesSpec : ChangeSpec := { name := "deviationDoes", fn := fun _ => fun
  | [d1, d2, d3, d4, d5, d6, d7, d8, d9, d10] => { results := [.lit (.bool true)], args := [d1, d2, d3, d4, d5, d6, d7, d8, d9, d10] }
  | _ => none }
def deviationDoesRow : OpenClaim := { program := "ytpdfbkeholfdaaa", sum := "38aafc810461d9616fa39090878e0d48cdde4739b1f8399f125bfeff60bc60f4", func := "hydrocascade/hydrocascadelaw26.DeviationDoes", spec := "deviationDoes", unfollowed := true, recurses := true, apart := false }
def DeviationDoesSaid : Prop := deviationDoesRow.holds Try.pinned (OpenSpec.ofChange deviationDoesSpec)

/-- ITS FALSE NEIGHBOUR: 'it returns false'. Refute it at one input. -/
def deviationDoesWrong : ChangeSpec := { name := "deviationDoes", fn := fun _ => fun
  | [d1, d2, d3, d4, d5, d6, d7, d8, d9, d10] => { results := [.lit (.bool false)], args := [d1, d2, d3, d4, d5, d6, d7, d8, d9, d10] }
  | _ => none }
def DeviationDoesWrongFalsely : Prop := deviationDoesRow.holds Try.pinned (OpenSpec.ofChange deviationDoesWrong)

/-- 'hydrocascadelaw26.DeviationTells': WHATEVER THE INPUT: true; the input reads as it did. -/
def deviationTellsSpec : ChangeSpec := { name := "deviationTells", fn := fun _ => fun
  | [d1, d2, d3, d4, d5, d6, d7] => { results := [.lit (.bool true)], args := [d1, d2, d3, d4, d5, d6, d7] }
  | _ => none }
def deviationTellsRow : OpenClaim := { program := "ytpdfbkeholfdaaa", sum := "38aafc810461d9616fa39090878e0d48cdde4739b1f8399f125bfeff60bc60f4", func := "hydrocascade/hydrocascadelaw26.DeviationTells", spec := "deviationTells", unfollowed := true, recurses := true, apart := false }
def DeviationTellsSaid : Prop := deviationTellsRow.holds Try.pinned (OpenSpec.ofChange deviationTellsSpec)

/-- ITS FALSE NEIGHBOUR: 'it returns false'. Refute it at one input. -/
def deviationTellsWrong : ChangeSpec := { name := "deviationTells", fn := fun _ => fun
  | [d1, d2, d3, d4, d5, d6, d7] => { results := [.lit (.bool false)], args := [d1, d2, d3, d4, d5, d6, d7] }
  | _ => none }
def DeviationTellsWrongFalsely : Prop := deviationTellsRow.holds Try.pinned (OpenSpec.ofChange deviationTellsWrong)

/- THE SECOND FORM. 'bulk': how many values and letters a reading holds, each counted each time it is reached (what is shared counts as often as it is met; a slice's spare places count too). A statement '..UptoSaid' is the law's where the arguments, and the package variables that the reading takes, are together of bulk at most 1048576: NARROWER than '..Said'. Prove '..Said' where nothing that the law and all that it calls make is longer than what came in: it says more and counts as full. Else prove '..UptoSaid'. A law counts once. -/
mutual
def uptoBulk {H : Type} : DataW H → Nat
  | .lit (.string bytes) => bytes.length + 1
  | .lit _ => 1
  | .nil => 1
  | .ptr d => uptoBulk d + 1
  | .slice elems spare => uptoBulkAll elems + uptoBulkAll spare + 1
  | .agg parts => uptoBulkAll parts + 1
  | .iface _ d => uptoBulk d + 1
  | .map entries => uptoBulkEntries entries + 1
  | .held _ => 1
def uptoBulkAll {H : Type} : List (DataW H) → Nat
  | [] => 0
  | d :: r => uptoBulk d + uptoBulkAll r
def uptoBulkEntries {H : Type} : List (Lit × DataW H) → Nat
  | [] => 0
  | x :: r => uptoBulkEntry x + uptoBulkEntries r
def uptoBulkEntry {H : Type} : Lit × DataW H → Nat
  | (.string bytes, d) => bytes.length + uptoBulk d + 1
  | (_, d) => uptoBulk d + 1
 end
def uptoSmall : (H : Type) → List (DataW H) → Bool := fun _ ds => decide (uptoBulkAll ds ≤ 1048576)
def OpenSpec.upto (s : _root_.Go.ChangeSpec) : _root_.Go.OpenSpec := { _root_.Go.OpenSpec.ofChange s with cond := some uptoSmall }

/-- 'hydrocascadelaw26.DeviationTwo', WHERE WHAT IT READS IS OF BULK AT MOST 1048576: true; the input reads as it did. -/
def deviationTwoUptoRow : OpenClaim := { program := "ytpdfbkeholfdaaa", sum := "38aafc810461d9616fa39090878e0d48cdde4739b1f8399f125bfeff60bc60f4", func := "hydrocascade/hydrocascadelaw26.DeviationTwo", spec := "deviationTwo", unfollowed := true, recurses := true, apart := false, narrowed := true }
def DeviationTwoUptoSaid : Prop := deviationTwoUptoRow.holds Try.pinned (OpenSpec.upto deviationTwoSpec)

/-- 'hydrocascadelaw26.DeviationCodes', WHERE WHAT IT READS IS OF BULK AT MOST 1048576: true; the input reads as it did. -/
def deviationCodesUptoRow : OpenClaim := { program := "ytpdfbkeholfdaaa", sum := "38aafc810461d9616fa39090878e0d48cdde4739b1f8399f125bfeff60bc60f4", func := "hydrocascade/hydrocascadelaw26.DeviationCodes", spec := "deviationCodes", unfollowed := true, recurses := true, apart := false, narrowed := true }
def DeviationCodesUptoSaid : Prop := deviationCodesUptoRow.holds Try.pinned (OpenSpec.upto deviationCodesSpec)

/-- 'hydrocascadelaw26.DeviationDoes', WHERE WHAT IT READS IS OF BULK AT MOST 1048576: true; the input reads as it did. -/
def deviationDoesUptoRow : OpenClaim := { program := "ytpdfbkeholfdaaa", sum := "38aafc810461d9616fa39090878e0d48cdde4739b1f8399f125bfeff60bc60f4", func := "hydrocascade/hydrocascadelaw26.DeviationDoes", spec := "deviationDoes", unfollowed := true, recurses := true, apart := false, narrowed := true }
def DeviationDoesUptoSaid : Prop := deviationDoesUptoRow.holds Try.pinned (OpenSpec.upto deviationDoesSpec)

/-- 'hydrocascadelaw26.DeviationTells', WHERE WHAT IT READS IS OF BULK AT MOST 1048576: true; the input reads as it did. -/
def deviationTellsUptoRow : OpenClaim := { program := "ytpdfbkeholfdaaa", sum := "38aafc810461d9616fa39090878e0d48cdde4739b1f8399f125bfeff60bc60f4", func := "hydrocascade/hydrocascadelaw26.DeviationTells", spec := "deviationTells", unfollowed := true, recurses := true, apart := false, narrowed := true }
def DeviationTellsUptoSaid : Prop := deviationTellsUptoRow.holds Try.pinned (OpenSpec.upto deviationTellsSpec)

end Rows
end Go.Proofs.Ytpdfbkeholfdaaa
