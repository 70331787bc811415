/-
  No cell of these rows narrows 'for every input' (looked for: loops, veiled, ifaces, maps, wideKeys, modest, calm, conditions, laid).
  DERIVED. THE GIVEN ROWS OF THIS SEAT. 4 by the template 'for every input the law returns true; each argument reads behind the call as it read before'; 0 by the template 'total and deterministic' (their statements: YtmdcopjppbpepaaTotals.lean).
  GIVEN WITH THE SEED: the statements are not yours to turn. If you find one false, say at which input.
  Laid BY PROGRAM, IN A SANDBOX (cutbox-rows.mjs): the forced cells as the released guide's own fill.sh prints them over the translation 67f954fedcec5336… (all of the seat's roots in one cut). By AI agents, Wed Nov 11 2026. No macro, syntax, notation, axiom, sorry.
-/
import Derived.Test.YtmdcopjppbpepaaChecked
import GoSem.Claim
import GoSem.ClaimJoined
import GoSem.ClaimMapViews
import Derived.JoinedTies
import Derived.KernelRfl
namespace Go.Proofs.Ytmdcopjppbpepaa
/- THE CELL 'sum', in the pinned program and in every row, IS THE sha256 OF THE DUMP (.gsa) THAT YtmdcopjppbpepaaProg.lean LOADS. Nothing in Lean hashes anything: it is a label: what it is worth is what the hold of that sum in a sandbox is worth. -/
noncomputable def Try.pinned : Pinned := { name := "ytmdcopjppbpepaa", sum := "67f954fedcec5336a723f56fb650cd651084607a32803397783d9e0949e264f3", checked := Try.checked }
namespace Rows
def none {H : Type} : Left H := { results := [], args := [] }

/-- 'hydrocascadelaw28.TelemetryOrder': WHATEVER THE INPUT: true; the input reads as it did. -/
def telemetryOrderSpec : ChangeSpec := { name := "telemetryOrder", fn := fun _ => fun
  | [d1, d2] => { results := [.lit (.bool true)], args := [d1, d2] }
  | _ => none }
def telemetryOrderRow : OpenClaim := { program := "ytmdcopjppbpepaa", sum := "67f954fedcec5336a723f56fb650cd651084607a32803397783d9e0949e264f3", func := "hydrocascade/hydrocascadelaw28.TelemetryOrder", spec := "telemetryOrder", apart := false }
def TelemetryOrderSaid : Prop := telemetryOrderRow.holds Try.pinned (OpenSpec.ofChange telemetryOrderSpec)

/-- ITS FALSE NEIGHBOUR: 'it returns false'. Refute it at one input. -/
def telemetryOrderWrong : ChangeSpec := { name := "telemetryOrder", fn := fun _ => fun
  | [d1, d2] => { results := [.lit (.bool false)], args := [d1, d2] }
  | _ => none }
def TelemetryOrderWrongFalsely : Prop := telemetryOrderRow.holds Try.pinned (OpenSpec.ofChange telemetryOrderWrong)

/-- 'hydrocascadelaw28.TelemetryTakes': WHATEVER THE INPUT: true; the input reads as it did. -/
def telemetryTakesSpec : ChangeSpec := { name := "telemetryTakes", fn := fun _ => fun
  | [d1, d2, d3, d4, d5] => { results := [.lit (.bool true)], args := [d1, d2, d3, d4, d5] }
  | _ => none }
def telemetryTakesRow : OpenClaim := { program := "ytmdcopjppbpepaa", sum := "67f954fedcec5336a723f56fb650cd651084607a32803397783d9e0949e264f3", func := "hydrocascade/hydrocascadelaw28.TelemetryTakes", spec := "telemetryTakes", apart := false }
def TelemetryTakesSaid : Prop := telemetryTakesRow.holds Try.pinned (OpenSpec.ofChange telemetryTakesSpec)

/-- ITS FALSE NEIGHBOUR: 'it returns false'. Refute it at one input. -/
def telemetryTakesWrong : ChangeSpec := { name := "telemetryTakes", fn := fun _ => fun
  | [d1, d2, d3, d4, d5] => { results := [.lit (.bool false)], args := [d1, d2, d3, d4, d5] }
  | _ => none }
def TelemetryTakesWrongFalsely : Prop := telemetryTakesRow.holds Try.pinned (OpenSpec.ofChange telemetryTakesWrong)

/-- 'hydrocascadelaw28.TelemetryBytes': WHATEVER THE INPUT: true; the input reads as it did. -/
def telemetryBytesSpec : ChangeSpec := { name := "telemetryBytes", fn := fun _ => fun
  | [d1, d2, d3, d4, d5] => { results := [.lit (.bool true)], args := [d1, d2, d3, d4, d5] }
  | _ => none }
def telemetryBytesRow : OpenClaim := { program := "ytmdcopjppbpepaa", sum := "67f954fedcec5336a723f56fb650cd651084607a32803397783d9e0949e264f3", func := "hydrocascade/hydrocascadelaw28.TelemetryBytes", spec := "telemetryBytes", apart := false }
def TelemetryBytesSaid : Prop := telemetryBytesRow.holds Try.pinned (OpenSpec.ofChange telemetryBytesSpec)

/-- ITS FALSE NEIGHBOUR: 'it returns false'. Refute it at one input. -/
def telemetryBytesWrong : ChangeSpec := { name := "telemetryBytes", fn := fun _ => fun
  | [d1, d2, d3, d4, d5] => { results := [.lit (.bool false)], args := [d1, d2, d3, d4, d5] }
  | _ => none }
def TelemetryBytesWrongFalsely : Prop := telemetryBytesRow.holds Try.pinned (OpenSpec.ofChange telemetryBytesWrong)

/-- 'hydrocascadelaw28.TelemetryBack': WHATEVER THE INPUT: true; the input reads as it did. -/
def telemetryBackSpec : ChangeSpec := { name := "telemetryBack", fn := fun _ => fun
  | [d1, d2, d3] => { results := [.lit (.bool true)], args := [d1, d2, d3] }
  | _ => none }
def telemetryBackRow : OpenClaim := { program := "ytmdcopjppbpepaa", sum := "67f954fedcec5336a723f56fb650cd651084607a32803397783d9e0949e264f3", func := "hydrocascade/hydrocascadelaw28.TelemetryBack", spec := "telemetryBack", apart := false }
def TelemetryBackSaid : Prop := telemetryBackRow.holds Try.pinned (OpenSpec.ofChange telemetryBackSpec)

/-- ITS FALSE NEIGHBOUR: 'it returns false'. Refute it at one input. -/
def telemetryBackWrong : ChangeSpec := { name := "telemetryBack", fn := fun _ => fun
  | [d1, d2, d3] => { results := [.lit (.bool false)], args := [d1, d2, d3] }
  | _ => none }
def TelemetryBackWrongFalsely : Prop := telemetryBackRow.holds Try.pinned (OpenSpec.ofChange telemetryBackWrong)

/- THE SECOND FORM. 'bulk': how many values and letters a reading holds, each counted each time it is reached (what is shared counts as often as it is met; a slice's spare places count too). A statement '..UptoSaid' is the law's where the arguments, and the package variables that the reading takes, are together of bulk at most 1048576: NARROWER than '..Said'. Prove '..Said' where nothing that the law and all that it calls make is longer than what came in: it says more and counts as full. Else prove '..UptoSaid'. A law counts once. -/
mutual
def uptoBulk {H : Type} : DataW H → Nat
  | .lit (.string bytes) => bytes.length + 1
  | .lit _ => 1
  | .nil => 1
  | .ptr d => uptoBulk d + 1
  | .slice elems spare => uptoBulkAll elems + uptoBulkAll spare + 1
  | .agg parts => uptoBulkAll parts + 1
  | .iface _ d => uptoBulk d + 1
  | .map entries => uptoBulkEntries entries + 1
  | .held _ => 1
def uptoBulkAll {H : Type} : List (DataW H) → Nat
  | [] => 0
  | d :: r => uptoBulk d + uptoBulkAll r
def uptoBulkEntries {H : Type} : List (Lit × DataW H) → Nat
  | [] => 0
  | x :: r => uptoBulkEntry x + uptoBulkEntries r
def uptoBulkEntry {H : Type} : Lit × DataW H → Nat
  | (.string bytes, d) => bytes.length + uptoBulk d + 1
  | (_, d) => uptoBulk d + 1
 end
def uptoSmall : (H : Type) → List (DataW H) → Bool := fun _ ds => decide (uptoBulkAll ds ≤ 1048576)
def OpenSpec.upto (s : _root_.Go.ChangeSpec) : _root_.Go.OpenSpec := { _root_.Go.OpenSpec.ofChange s with cond := some uptoSmall }

/-- 'hydrocascadelaw28.TelemetryOrder', WHERE WHAT IT READS IS OF BULK AT MOST 1048576: true; the input reads as it did. -/
def telemetryOrderUptoRow : OpenClaim := { program := "ytmdcopjppbpepaa", sum := "67f954fedcec5336a723f56fb650cd651084607a32803397783d9e0949e264f3", func := "hydrocascade/hydrocascadelaw28.TelemetryOrder", spec := "telemetryOrder", apart := false, narrowed := true }
def TelemetryOrderUptoSaid : Prop := telemetryOrderUptoRow.holds Try.pinned (OpenSpec.upto telemetryOrderSpec)

/-- 'hydrocascadelaw28.TelemetryTakes', WHERE WHAT IT READS IS OF BULK AT MOST 1048576: true; the input reads as it did. -/
def telemetryTakesUptoRow : OpenClaim := { program := "ytmdcopjppbpepaa", sum := "67f954fedcec5336a723f56fb650cd651084607a32803397783d9e0949e264f3", func := "hydrocascade/hydrocascadelaw28.TelemetryTakes", spec := "telemetryTakes", apart := false, narrowed := true }
def TelemetryTakesUptoSaid : Prop := telemetryTakesUptoRow.holds Try.pinned (OpenSpec.upto telemetryTakesSpec)

/-- 'hydrocascadelaw28.TelemetryBytes', WHERE WHAT IT READS IS OF BULK AT MOST 1048576: true; the input reads as it did. -/
def telemetryBytesUptoRow : OpenClaim := { program := "ytmdcopjppbpepaa", sum := "67f954fedcec5336a723f56fb650cd651084607a32803397783d9e0949e264f3", func := "hydrocascade/hydrocascadelaw28.TelemetryBytes", spec := "telemetryBytes", apart := false, narrowed := true }
def TelemetryBytesUptoSaid : Prop := telemetryBytesUptoRow.holds Try.pinned (OpenSpec.upto telemetryBytesSpec)

/-- 'hydrocascadelaw28.TelemetryBack', WHERE WHAT IT READS IS OF BULK AT MOST 1048576: true; the input reads as it did. -/
def telemetryBackUptoRow : OpenClaim := { program := "ytmdcopjppbpepaa", sum := "67f954fedcec5336a723f56fb650cd651084607a32803397783d9e0949e264f3", func := "hydrocascade/hydrocascadelaw28.TelemetryBack", spec := "telemetryBack", apart := false, narrowed := true }
def TelemetryBackUptoSaid : Prop := telemetryBackUptoRow.holds Try.pinned (OpenSpec.upto telemetryBackSpec)

end Rows
end Go.Proofs.Ytmdcopjppbpepaa
