/-
  No cell of these rows narrows 'for every input' (looked for: loops, veiled, ifaces, maps, wideKeys, modest, calm, conditions, laid).
  DERIVED. THE GIVEN ROWS OF THIS SEAT. 5 by the template 'for every input the law returns true; each argument reads behind the call as it read before'; 0 by the template 'total and deterministic' (their statements: YtfkkhdbmignmaaaTotals.lean).
  GIVEN WITH THE SEED: the statements are not yours to turn. If you find one false, say at which input.
  Laid BY PROGRAM, IN A SANDBOX (cutbox-rows.mjs): the forced cells as the released guide's own fill.sh prints them over the translation 2dbe0f5e12190cbd… (all of the seat's roots in one cut). By AI agents, Wed Nov 11 2026. No macro, syntax, notation, axiom, sorry.
-/
import Derived.Test.YtfkkhdbmignmaaaChecked
import GoSem.Claim
import GoSem.ClaimJoined
import GoSem.ClaimMapViews
import Derived.JoinedTies
import Derived.KernelRfl
namespace Go.Proofs.Ytfkkhdbmignmaaa
/- THE CELL 'sum', in the pinned program and in every row, IS THE sha256 OF THE DUMP (.gsa) THAT YtfkkhdbmignmaaaProg.lean LOADS. Nothing in Lean hashes anything: it is a label: what it is worth is what the hold of that sum in a sandbox is worth. -/
noncomputable def Try.pinned : Pinned := { name := "ytfkkhdbmignmaaa", sum := "2dbe0f5e12190cbd27f5134636b951ad1029e80ed829b5c602ff0e6ef7fceea5", checked := Try.checked }
namespace Rows
def none {H : Type} : Left H := { results := [], args := [] }

/-- 'hydrocascadelaw21.RampMirrors': WHATEVER THE INPUT: true; the input reads as it did. -/
def rampMirrorsSpec : ChangeSpec := { name := "rampMirrors", fn := fun _ => fun
  | [d1, d2, d3, d4] => { results := [.lit (.bool true)], args := [d1, d2, d3, d4] }
  | _ => none }
def rampMirrorsRow : OpenClaim := { program := "ytfkkhdbmignmaaa", sum := "2dbe0f5e12190cbd27f5134636b951ad1029e80ed829b5c602ff0e6ef7fceea5", func := "hydrocascade/hydrocascadelaw21.RampMirrors", spec := "rampMirrors", unfollowed := true, recurses := true, apart := false }
def RampMirrorsSaid : Prop := rampMirrorsRow.holds Try.pinned (OpenSpec.ofChange rampMirrorsSpec)

/-- ITS FALSE NEIGHBOUR: 'it returns false'. Refute it at one input. -/
def rampMirrorsWrong : ChangeSpec := { name := "rampMirrors", fn := fun _ => fun
  | [d1, d2, d3, d4] => { results := [.lit (.bool false)], args := [d1, d2, d3, d4] }
  | _ => none }
def RampMirrorsWrongFalsely : Prop := rampMirrorsRow.holds Try.pinned (OpenSpec.ofChange rampMirrorsWrong)

/-- 'hydrocascadelaw21.RampArrives': WHATEVER THE INPUT: true; the input reads as it did. -/
def rampArrivesSpec : ChangeSpec := { name := "rampArrives", fn := fun _ => fun
  | [d1, d2, d3, d4] => { results := [.lit (.bool true)], args := [d1, d2, d3, d4] }
  | _ => none }
def rampArrivesRow : OpenClaim := { program := "ytfkkhdbmignmaaa", sum := "2dbe0f5e12190cbd27f5134636b951ad1029e80ed829b5c602ff0e6ef7fceea5", func := "hydrocascade/hydrocascadelaw21.RampArrives", spec := "rampArrives", unfollowed := true, recurses := true, apart := false }
def RampArrivesSaid : Prop := rampArrivesRow.holds Try.pinned (OpenSpec.ofChange rampArrivesSpec)

/-- ITS FALSE NEIGHBOUR: 'it returns false'. Refute it at one input. -/
def rampArrivesWrong : ChangeSpec := { name := "rampArrives", fn := fun _ => fun
  | [d1, d2, d3, d4] => { results := [.lit (.bool false)], args := [d1, d2, d3, d4] }
  | _ => none }
def RampArrivesWrongFalsely : Prop := rampArrivesRow.holds Try.pinned (OpenSpec.ofChange rampArrivesWrong)

/-- 'hydrocascadelaw21.RampSteps': WHATEVER THE INPUT: true; the input reads as it did. -/
def rampStepsSpec : ChangeSpec := { name := "rampSteps", fn := fun _ => fun
  | [d1, d2, d3, d4] => { results := [.lit (.bool true)], args := [d1, d2, d3, d4] }
  | _ => none }
def rampStepsRow : OpenClaim := { program := "ytfkkhdbmignmaaa", sum := "2dbe0f5e12190cbd27f5134636b951ad1029e80ed829b5c602ff0e6ef7fceea5", func := "hydrocascade/hydrocascadelaw21.RampSteps", spec := "rampSteps", unfollowed := true, recurses := true, apart := false }
def RampStepsSaid : Prop := rampStepsRow.holds Try.pinned (OpenSpec.ofChange rampStepsSpec)

/-- ITS FALSE NEIGHBOUR: 'it returns false'. Refute it at one input. -/
def rampStepsWrong : ChangeSpec := { name := "rampSteps", fn := fun _ => fun
  | [d1, d2, d3, d4] => { results := [.lit (.bool false)], args := [d1, d2, d3, d4] }
  | _ => none }
def RampStepsWrongFalsely : Prop := rampStepsRow.holds Try.pinned (OpenSpec.ofChange rampStepsWrong)

/-- 'hydrocascadelaw21.RampLatest': WHATEVER THE INPUT: true; the input reads as it did. -/
def rampLatestSpec : ChangeSpec := { name := "rampLatest", fn := fun _ => fun
  | [d1, d2, d3, d4] => { results := [.lit (.bool true)], args := [d1, d2, d3, d4] }
  | _ => none }
def rampLatestRow : OpenClaim := { program := "ytfkkhdbmignmaaa", sum := "2dbe0f5e12190cbd27f5134636b951ad1029e80ed829b5c602ff0e6ef7fceea5", func := "hydrocascade/hydrocascadelaw21.RampLatest", spec := "rampLatest", unfollowed := true, recurses := true, apart := false }
def RampLatestSaid : Prop := rampLatestRow.holds Try.pinned (OpenSpec.ofChange rampLatestSpec)

/-- ITS FALSE NEIGHBOUR: 'it returns false'. Refute it at one input. -/
def rampLatestWrong : ChangeSpec := { name := "rampLatest", fn := fun _ => fun
  | [d1, d2, d3, d4] => { results := [.lit (.bool false)], args := [d1, d2, d3, d4] }
  | _ => none }
def RampLatestWrongFalsely : Prop := rampLatestRow.holds Try.pinned (OpenSpec.ofChange rampLatestWrong)

/-- 'hydrocascadelaw21.RampAll': WHATEVER THE INPUT: true; the input reads as it did. -/
def rampAllSpec : ChangeSpec := { name := "rampAll", fn := fun _ => fun
  | [d1, d2, d3, d4, d5, d6, d7, d8] => { results := [.lit (.bool true)], args := [d1, d2, d3, d4, d5, d6, d7, d8] }
  | _ => none }
def rampAllRow : OpenClaim := { program := "ytfkkhdbmignmaaa", sum := "2dbe0f5e12190cbd27f5134636b951ad1029e80ed829b5c602ff0e6ef7fceea5", func := "hydrocascade/hydrocascadelaw21.RampAll", spec := "rampAll", unfollowed := true, recurses := true, apart := false }
def RampAllSaid : Prop := rampAllRow.holds Try.pinned (OpenSpec.ofChange rampAllSpec)

/-- ITS FALSE NEIGHBOUR: 'it returns false'. Refute it at one input. -/
def rampAllWrong : ChangeSpec := { name := "rampAll", fn := fun _ => fun
  | [d1, d2, d3, d4, d5, d6, d7, d8] => { results := [.lit (.bool false)], args := [d1, d2, d3, d4, d5, d6, d7, d8] }
  | _ => none }
def RampAllWrongFalsely : Prop := rampAllRow.holds Try.pinned (OpenSpec.ofChange rampAllWrong)

/- THE SECOND FORM. 'bulk': how many values and letters a reading holds, each counted each time it is reached (what is shared counts as often as it is met; a slice's spare places count too). A statement '..UptoSaid' is the law's where the arguments, and the package variables that the reading takes, are together of bulk at most 1048576: NARROWER than '..Said'. Prove '..Said' where nothing that the law and all that it calls make is longer than what came in: it says more and counts as full. Else prove '..UptoSaid'. A law counts once. -/
mutual
def uptoBulk {H : Type} : DataW H → Nat
  | .lit (.string bytes) => bytes.length + 1
  | .lit _ => 1
  | .nil => 1
  | .ptr d => uptoBulk d + 1
  | .slice elems spare => uptoBulkAll elems + uptoBulkAll spare + 1
  | .agg parts => uptoBulkAll parts + 1
  | .iface _ d => uptoBulk d + 1
  | .map entries => uptoBulkEntries entries + 1
  | .held _ => 1
def uptoBulkAll {H : Type} : List (DataW H) → Nat
  | [] => 0
  | d :: r => uptoBulk d + uptoBulkAll r
def uptoBulkEntries {H : Type} : List (Lit × DataW H) → Nat
  | [] => 0
  | x :: r => uptoBulkEntry x + uptoBulkEntries r
def uptoBulkEntry {H : Type} : Lit × DataW H → Nat
  | (.string bytes, d) => bytes.length + uptoBulk d + 1
  | (_, d) => uptoBulk d + 1
 end
def uptoSmall : (H : Type) → List (DataW H) → Bool := fun _ ds => decide (uptoBulkAll ds ≤ 1048576)
def OpenSpec.upto (s : _root_.Go.ChangeSpec) : _root_.Go.OpenSpec := { _root_.Go.OpenSpec.ofChange s with cond := some uptoSmall }

/-- 'hydrocascadelaw21.RampMirrors', WHERE WHAT IT READS IS OF BULK AT MOST 1048576: true; the input reads as it did. -/
def rampMirrorsUptoRow : OpenClaim := { program := "ytfkkhdbmignmaaa", sum := "2dbe0f5e12190cbd27f5134636b951ad1029e80ed829b5c602ff0e6ef7fceea5", func := "hydrocascade/hydrocascadelaw21.RampMirrors", spec := "rampMirrors", unfollowed := true, recurses := true, apart := false, narrowed := true }
def RampMirrorsUptoSaid : Prop := rampMirrorsUptoRow.holds Try.pinned (OpenSpec.upto rampMirrorsSpec)

/-- 'hydrocascadelaw21.RampArrives', WHERE WHAT IT READS IS OF BULK AT MOST 1048576: true; the input reads as it did. -/
def rampArrivesUptoRow : OpenClaim := { program := "ytfkkhdbmignmaaa", sum := "2dbe0f5e12190cbd27f5134636b951ad1029e80ed829b5c602ff0e6ef7fceea5", func := "hydrocascade/hydrocascadelaw21.RampArrives", spec := "rampArrives", unfollowed := true, recurses := true, apart := false, narrowed := true }
def RampArrivesUptoSaid : Prop := rampArrivesUptoRow.holds Try.pinned (OpenSpec.upto rampArrivesSpec)

/-- 'hydrocascadelaw21.RampSteps', WHERE WHAT IT READS IS OF BULK AT MOST 1048576: true; the input reads as it did. -/
def rampStepsUptoRow : OpenClaim := { program := "ytfkkhdbmignmaaa", sum := "2dbe0f5e12190cbd27f5134636b951ad1029e80ed829b5c602ff0e6ef7fceea5", func := "hydrocascade/hydrocascadelaw21.RampSteps", spec := "rampSteps", unfollowed := true, recurses := true, apart := false, narrowed := true }
def RampStepsUptoSaid : Prop := rampStepsUptoRow.holds Try.pinned (OpenSpec.upto rampStepsSpec)

/-- 'hydrocascadelaw21.RampLatest', WHERE WHAT IT READS IS OF BULK AT MOST 1048576: true; the input reads as it did. -/
def rampLatestUptoRow : OpenClaim := { program := "ytfkkhdbmignmaaa", sum := "2dbe0f5e12190cbd27f5134636b951ad1029e80ed829b5c602ff0e6ef7fceea5", func := "hydrocascade/hydrocascadelaw21.RampLatest", spec := "rampLatest", unfollowed := true, recurses := true, apart := false, narrowed := true }
def RampLatestUptoSaid : Prop := rampLatestUptoRow.holds Try.pinned (OpenSpec.upto rampLatestSpec)

/-- 'hydrocascadelaw21.RampAll', WHERE WHAT IT READS IS OF BULK AT MOST 1048576: true; the input reads as it did. -/
def rampAllUptoRow : OpenClaim := { program := "ytfkkhdbmignmaaa", sum := "2dbe0f5e12190cbd27f5134636b951ad1029e80ed829b5c602ff0e6ef7fceea5", func := "hydrocascade/hydrocascadelaw21.RampAll", spec := "rampAll", unfollowed := true, recurses := true, apart := false, narrowed := true }
def RampAllUptoSaid : Prop := rampAllUptoRow.holds Try.pinned (OpenSpec.upto rampAllSpec)

end Rows
end Go.Proofs.Ytfkkhdbmignmaaa
