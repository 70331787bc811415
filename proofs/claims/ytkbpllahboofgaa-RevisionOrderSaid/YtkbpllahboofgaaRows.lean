/-
  No cell of these rows narrows 'for every input' (looked for: loops, veiled, ifaces, maps, wideKeys, modest, calm, conditions, laid).
  DERIVED. THE GIVEN ROWS OF THIS SEAT. 4 by the template 'for every input the law returns true; each argument reads behind the call as it read before'; 0 by the template 'total and deterministic' (their statements: YtkbpllahboofgaaTotals.lean).
  GIVEN WITH THE SEED: the statements are not yours to turn. If you find one false, say at which input.
  Laid BY PROGRAM, IN A SANDBOX (cutbox-rows.mjs): the forced cells as the released guide's own fill.sh prints them over the translation d61e2cfbbce28945… (all of the seat's roots in one cut). By AI agents, Wed Nov 11 2026. No macro, syntax, notation, axiom, sorry.
-/
import Derived.Test.YtkbpllahboofgaaChecked
import GoSem.Claim
import GoSem.ClaimJoined
import GoSem.ClaimMapViews
import Derived.JoinedTies
import Derived.KernelRfl
namespace Go.Proofs.Ytkbpllahboofgaa
/- THE CELL 'sum', in the pinned program and in every row, IS THE sha256 OF THE DUMP (.gsa) THAT YtkbpllahboofgaaProg.lean LOADS. Nothing in Lean hashes anything: it is a label: what it is worth is what the hold of that sum in a sandbox is worth. -/
noncomputable def Try.pinned : Pinned := { name := "ytkbpllahboofgaa", sum := "d61e2cfbbce28945a451c49463ce9ed07ebd28bb7631e977220e159c39b4472e", checked := Try.checked }
namespace Rows
def none {H : Type} : Left H := { results := [], args := [] }

/-- 'hydrocascadelaw31.RevisionContradicts': WHATEVER THE INPUT: true; the input reads as it did. -/
def revisionContradictsSpec : ChangeSpec := { name := "revisionContradicts", fn := fun _ => fun
  | [d1, d2, d3, d4] => { results := [.lit (.bool true)], args := [d1, d2, d3, d4] }
  | _ => none }
def revisionContradictsRow : OpenClaim := { program := "ytkbpllahboofgaa", sum := "d61e2cfbbce28945a451c49463ce9ed07ebd28bb7631e977220e159c39b4472e", func := "hydrocascade/hydrocascadelaw31.RevisionContradicts", spec := "revisionContradicts", inPlace := ["slices.overlaps[hydrocascade/api.Report]"], unfollowed := true, recurses := true, apart := false }
def RevisionContradictsSaid : Prop := revisionContradictsRow.holds Try.pinned (OpenSpec.ofChange revisionContradictsSpec)

/-- ITS FALSE NEIGHBOUR: 'it returns false'. Refute it at one input. -/
def revisionContradictsWrong : ChangeSpec := { name := "revisionContradicts", fn := fun _ => fun
  | [d1, d2, d3, d4] => { results := [.lit (.bool false)], args := [d1, d2, d3, d4] }
  | _ => none }
def RevisionContradictsWrongFalsely : Prop := revisionContradictsRow.holds Try.pinned (OpenSpec.ofChange revisionContradictsWrong)

/-- 'hydrocascadelaw31.RevisionTrue': WHATEVER THE INPUT: true; the input reads as it did. -/
def revisionTrueSpec : ChangeSpec := { name := "revisionTrue", fn := fun _ => fun
  | [d1, d2] => { results := [.lit (.bool true)], args := [d1, d2] }
  | _ => none }
def revisionTrueRow : OpenClaim := { program := "ytkbpllahboofgaa", sum := "d61e2cfbbce28945a451c49463ce9ed07ebd28bb7631e977220e159c39b4472e", func := "hydrocascade/hydrocascadelaw31.RevisionTrue", spec := "revisionTrue", inPlace := ["slices.overlaps[hydrocascade/api.Report]"], unfollowed := true, recurses := true, apart := false }
def RevisionTrueSaid : Prop := revisionTrueRow.holds Try.pinned (OpenSpec.ofChange revisionTrueSpec)

/-- ITS FALSE NEIGHBOUR: 'it returns false'. Refute it at one input. -/
def revisionTrueWrong : ChangeSpec := { name := "revisionTrue", fn := fun _ => fun
  | [d1, d2] => { results := [.lit (.bool false)], args := [d1, d2] }
  | _ => none }
def RevisionTrueWrongFalsely : Prop := revisionTrueRow.holds Try.pinned (OpenSpec.ofChange revisionTrueWrong)

/-- 'hydrocascadelaw31.RevisionChanged': WHATEVER THE INPUT: true; the input reads as it did. -/
def revisionChangedSpec : ChangeSpec := { name := "revisionChanged", fn := fun _ => fun
  | [d] => { results := [.lit (.bool true)], args := [d] }
  | _ => none }
def revisionChangedRow : OpenClaim := { program := "ytkbpllahboofgaa", sum := "d61e2cfbbce28945a451c49463ce9ed07ebd28bb7631e977220e159c39b4472e", func := "hydrocascade/hydrocascadelaw31.RevisionChanged", spec := "revisionChanged", inPlace := ["slices.overlaps[hydrocascade/api.Report]"], unfollowed := true, recurses := true, apart := false }
def RevisionChangedSaid : Prop := revisionChangedRow.holds Try.pinned (OpenSpec.ofChange revisionChangedSpec)

/-- ITS FALSE NEIGHBOUR: 'it returns false'. Refute it at one input. -/
def revisionChangedWrong : ChangeSpec := { name := "revisionChanged", fn := fun _ => fun
  | [d] => { results := [.lit (.bool false)], args := [d] }
  | _ => none }
def RevisionChangedWrongFalsely : Prop := revisionChangedRow.holds Try.pinned (OpenSpec.ofChange revisionChangedWrong)

/-- 'hydrocascadelaw31.RevisionOrder': WHATEVER THE INPUT: true; the input reads as it did. -/
def revisionOrderSpec : ChangeSpec := { name := "revisionOrder", fn := fun _ => fun
  | [d] => { results := [.lit (.bool true)], args := [d] }
  | _ => none }
def revisionOrderRow : OpenClaim := { program := "ytkbpllahboofgaa", sum := "d61e2cfbbce28945a451c49463ce9ed07ebd28bb7631e977220e159c39b4472e", func := "hydrocascade/hydrocascadelaw31.RevisionOrder", spec := "revisionOrder", inPlace := ["slices.overlaps[hydrocascade/api.Report]"], unfollowed := true, recurses := true, apart := false }
def RevisionOrderSaid : Prop := revisionOrderRow.holds Try.pinned (OpenSpec.ofChange revisionOrderSpec)

/-- ITS FALSE NEIGHBOUR: 'it returns false'. Refute it at one input. -/
def revisionOrderWrong : ChangeSpec := { name := "revisionOrder", fn := fun _ => fun
  | [d] => { results := [.lit (.bool false)], args := [d] }
  | _ => none }
def RevisionOrderWrongFalsely : Prop := revisionOrderRow.holds Try.pinned (OpenSpec.ofChange revisionOrderWrong)

/- THE SECOND FORM. 'bulk': how many values and letters a reading holds, each counted each time it is reached (what is shared counts as often as it is met; a slice's spare places count too). A statement '..UptoSaid' is the law's where the arguments, and the package variables that the reading takes, are together of bulk at most 1048576: NARROWER than '..Said'. Prove '..Said' where nothing that the law and all that it calls make is longer than what came in: it says more and counts as full. Else prove '..UptoSaid'. A law counts once. -/
mutual
def uptoBulk {H : Type} : DataW H → Nat
  | .lit (.string bytes) => bytes.length + 1
  | .lit _ => 1
  | .nil => 1
  | .ptr d => uptoBulk d + 1
  | .slice elems spare => uptoBulkAll elems + uptoBulkAll spare + 1
  | .agg parts => uptoBulkAll parts + 1
  | .iface _ d => uptoBulk d + 1
  | .map entries => uptoBulkEntries entries + 1
  | .held _ => 1
def uptoBulkAll {H : Type} : List (DataW H) → Nat
  | [] => 0
  | d :: r => uptoBulk d + uptoBulkAll r
def uptoBulkEntries {H : Type} : List (Lit × DataW H) → Nat
  | [] => 0
  | x :: r => uptoBulkEntry x + uptoBulkEntries r
def uptoBulkEntry {H : Type} : Lit × DataW H → Nat
  | (.string bytes, d) => bytes.length + uptoBulk d + 1
  | (_, d) => uptoBulk d + 1
 end
def uptoSmall : (H : Type) → List (DataW H) → Bool := fun _ ds => decide (uptoBulkAll ds ≤ 1048576)
def OpenSpec.upto (s : _root_.Go.ChangeSpec) : _root_.Go.OpenSpec := { _root_.Go.OpenSpec.ofChange s with cond := some uptoSmall }

/-- 'hydrocascadelaw31.RevisionContradicts', WHERE WHAT IT READS IS OF BULK AT MOST 1048576: true; the input reads as it did. -/
def revisionContradictsUptoRow : OpenClaim := { program := "ytkbpllahboofgaa", sum := "d61e2cfbbce28945a451c49463ce9ed07ebd28bb7631e977220e159c39b4472e", func := "hydrocascade/hydrocascadelaw31.RevisionContradicts", spec := "revisionContradicts", inPlace := ["slices.overlaps[hydrocascade/api.Report]"], unfollowed := true, recurses := true, apart := false, narrowed := true }
def RevisionContradictsUptoSaid : Prop := revisionContradictsUptoRow.holds Try.pinned (OpenSpec.upto revisionContradictsSpec)

/-- 'hydrocascadelaw31.RevisionTrue', WHERE WHAT IT READS IS OF BULK AT MOST 1048576: true; the input reads as it did. -/
def revisionTrueUptoRow : OpenClaim := { program := "ytkbpllahboofgaa", sum := "d61e2cfbbce28945a451c49463ce9ed07ebd28bb7631e977220e159c39b4472e", func := "hydrocascade/hydrocascadelaw31.RevisionTrue", spec := "revisionTrue", inPlace := ["slices.overlaps[hydrocascade/api.Report]"], unfollowed := true, recurses := true, apart := false, narrowed := true }
def RevisionTrueUptoSaid : Prop := revisionTrueUptoRow.holds Try.pinned (OpenSpec.upto revisionTrueSpec)

/-- 'hydrocascadelaw31.RevisionChanged', WHERE WHAT IT READS IS OF BULK AT MOST 1048576: true; the input reads as it did. -/
def revisionChangedUptoRow : OpenClaim := { program := "ytkbpllahboofgaa", sum := "d61e2cfbbce28945a451c49463ce9ed07ebd28bb7631e977220e159c39b4472e", func := "hydrocascade/hydrocascadelaw31.RevisionChanged", spec := "revisionChanged", inPlace := ["slices.overlaps[hydrocascade/api.Report]"], unfollowed := true, recurses := true, apart := false, narrowed := true }
def RevisionChangedUptoSaid : Prop := revisionChangedUptoRow.holds Try.pinned (OpenSpec.upto revisionChangedSpec)

/-- 'hydrocascadelaw31.RevisionOrder', WHERE WHAT IT READS IS OF BULK AT MOST 1048576: true; the input reads as it did. -/
def revisionOrderUptoRow : OpenClaim := { program := "ytkbpllahboofgaa", sum := "d61e2cfbbce28945a451c49463ce9ed07ebd28bb7631e977220e159c39b4472e", func := "hydrocascade/hydrocascadelaw31.RevisionOrder", spec := "revisionOrder", inPlace := ["slices.overlaps[hydrocascade/api.Report]"], unfollowed := true, recurses := true, apart := false, narrowed := true }
def RevisionOrderUptoSaid : Prop := revisionOrderUptoRow.holds Try.pinned (OpenSpec.upto revisionOrderSpec)

end Rows
end Go.Proofs.Ytkbpllahboofgaa
