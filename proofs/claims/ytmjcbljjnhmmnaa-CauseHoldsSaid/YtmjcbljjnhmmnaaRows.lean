/-
  No cell of these rows narrows 'for every input' (looked for: loops, veiled, ifaces, maps, wideKeys, modest, calm, conditions, laid).
  DERIVED. THE GIVEN ROWS OF THIS SEAT. 3 by the template 'for every input the law returns true; each argument reads behind the call as it read before'; 0 by the template 'total and deterministic' (their statements: YtmjcbljjnhmmnaaTotals.lean).
  GIVEN WITH THE SEED: the statements are not yours to turn. If you find one false, say at which input.
  Laid BY PROGRAM, IN A SANDBOX (cutbox-rows.mjs): the forced cells as the released guide's own fill.sh prints them over the translation 969f8a133cdfc787… (all of the seat's roots in one cut). By AI agents, Wed Nov 11 2026. No macro, syntax, notation, axiom, sorry.
-/
import Derived.Test.YtmjcbljjnhmmnaaChecked
import GoSem.Claim
import GoSem.ClaimJoined
import GoSem.ClaimMapViews
import Derived.JoinedTies
import Derived.KernelRfl
namespace Go.Proofs.Ytmjcbljjnhmmnaa
/- THE CELL 'sum', in the pinned program and in every row, IS THE sha256 OF THE DUMP (.gsa) THAT YtmjcbljjnhmmnaaProg.lean LOADS. Nothing in Lean hashes anything: it is a label: what it is worth is what the hold of that sum in a sandbox is worth. -/
noncomputable def Try.pinned : Pinned := { name := "ytmjcbljjnhmmnaa", sum := "969f8a133cdfc787f5c27aad60a4e09500490f6bcc5bc6f79a0d26a7525f5acd", checked := Try.checked }
namespace Rows
def none {H : Type} : Left H := { results := [], args := [] }

/-- 'hydrocascadelaw37.CauseHolds': WHATEVER THE INPUT: true; the input reads as it did. -/
def causeHoldsSpec : ChangeSpec := { name := "causeHolds", fn := fun _ => fun
  | [d1, d2] => { results := [.lit (.bool true)], args := [d1, d2] }
  | _ => none }
def causeHoldsRow : OpenClaim := { program := "ytmjcbljjnhmmnaa", sum := "969f8a133cdfc787f5c27aad60a4e09500490f6bcc5bc6f79a0d26a7525f5acd", func := "hydrocascade/hydrocascadelaw37.CauseHolds", spec := "causeHolds", inPlace := ["slices.overlaps[hydrocascade/api.Warning]", "slices.overlaps[hydrocascade/api.Cause]"], unfollowed := true, recurses := true, plainKeys := false, apart := false }
def CauseHoldsSaid : Prop := causeHoldsRow.holds Try.pinned (OpenSpec.ofChange causeHoldsSpec)

/-- ITS FALSE NEIGHBOUR: 'it returns false'. Refute it at one input. -/
def causeHoldsWrong : ChangeSpec := { name := "causeHolds", fn := fun _ => fun
  | [d1, d2] => { results := [.lit (.bool false)], args := [d1, d2] }
  | _ => none }
def CauseHoldsWrongFalsely : Prop := causeHoldsRow.holds Try.pinned (OpenSpec.ofChange causeHoldsWrong)

/-- 'hydrocascadelaw37.CauseTwice': WHATEVER THE INPUT: true; the input reads as it did. -/
def causeTwiceSpec : ChangeSpec := { name := "causeTwice", fn := fun _ => fun
  | [d1, d2, d3] => { results := [.lit (.bool true)], args := [d1, d2, d3] }
  | _ => none }
def causeTwiceRow : OpenClaim := { program := "ytmjcbljjnhmmnaa", sum := "969f8a133cdfc787f5c27aad60a4e09500490f6bcc5bc6f79a0d26a7525f5acd", func := "hydrocascade/hydrocascadelaw37.CauseTwice", spec := "causeTwice", inPlace := ["slices.overlaps[hydrocascade/api.Warning]", "slices.overlaps[hydrocascade/api.Cause]"], unfollowed := true, recurses := true, plainKeys := false, apart := false }
def CauseTwiceSaid : Prop := causeTwiceRow.holds Try.pinned (OpenSpec.ofChange causeTwiceSpec)

/-- ITS FALSE NEIGHBOUR: 'it returns false'. Refute it at one input. -/
def causeTwiceWrong : ChangeSpec := { name := "causeTwice", fn := fun _ => fun
  | [d1, d2, d3] => { results := [.lit (.bool false)], args := [d1, d2, d3] }
  | _ => none }
def CauseTwiceWrongFalsely : Prop := causeTwiceRow.holds Try.pinned (OpenSpec.ofChange causeTwiceWrong)

/-- 'hydrocascadelaw37.CauseDoes': WHATEVER THE INPUT: true; the input reads as it did. -/
def causeDoesSpec : ChangeSpec := { name := "causeDoes", fn := fun _ => fun
  | [d1, d2, d3, d4, d5, d6, d7, d8] => { results := [.lit (.bool true)], args := [d1, d2, d3, d4, d5, d6, d7, d8] }
  | _ => none }
def causeDoesRow : OpenClaim := { program := "ytmjcbljjnhmmnaa", sum := "969f8a133cdfc787f5c27aad60a4e09500490f6bcc5bc6f79a0d26a7525f5acd", func := "hydrocascade/hydrocascadelaw37.CauseDoes", spec := "causeDoes", inPlace := ["slices.overlaps[hydrocascade/api.Warning]", "slices.overlaps[hydrocascade/api.Cause]"], unfollowed := true, recurses := true, plainKeys := false, apart := false }
def CauseDoesSaid : Prop := causeDoesRow.holds Try.pinned (OpenSpec.ofChange causeDoesSpec)

/-- ITS FALSE NEIGHBOUR: 'it returns false'. Refute it at one input. -/
def causeDoesWrong : ChangeSpec := { name := "causeDoes", fn := fun _ => fun
  | [d1, d2, d3, d4, d5, d6, d7, d8] => { results := [.lit (.bool false)], args := [d1, d2, d3, d4, d5, d6, d7, d8] }
  | _ => none }
def CauseDoesWrongFalsely : Prop := causeDoesRow.holds Try.pinned (OpenSpec.ofChange causeDoesWrong)

/- THE SECOND FORM. 'bulk': how many values and letters a reading holds, each counted each time it is reached (what is shared counts as often as it is met; a slice's spare places count too). A statement '..UptoSaid' is the law's where the arguments, and the package variables that the reading takes, are together of bulk at most 1048576: NARROWER than '..Said'. Prove '..Said' where nothing that the law and all that it calls make is longer than what came in: it says more and counts as full. Else prove '..UptoSaid'. A law counts once. -/
mutual
def uptoBulk {H : Type} : DataW H → Nat
  | .lit (.string bytes) => bytes.length + 1
  | .lit _ => 1
  | .nil => 1
  | .ptr d => uptoBulk d + 1
  | .slice elems spare => uptoBulkAll elems + uptoBulkAll spare + 1
  | .agg parts => uptoBulkAll parts + 1
  | .iface _ d => uptoBulk d + 1
  | .map entries => uptoBulkEntries entries + 1
  | .held _ => 1
def uptoBulkAll {H : Type} : List (DataW H) → Nat
  | [] => 0
  | d :: r => uptoBulk d + uptoBulkAll r
def uptoBulkEntries {H : Type} : List (Lit × DataW H) → Nat
  | [] => 0
  | x :: r => uptoBulkEntry x + uptoBulkEntries r
def uptoBulkEntry {H : Type} : Lit × DataW H → Nat
  | (.string bytes, d) => bytes.length + uptoBulk d + 1
  | (_, d) => uptoBulk d + 1
 end
def uptoSmall : (H : Type) → List (DataW H) → Bool := fun _ ds => decide (uptoBulkAll ds ≤ 1048576)
def OpenSpec.upto (s : _root_.Go.ChangeSpec) : _root_.Go.OpenSpec := { _root_.Go.OpenSpec.ofChange s with cond := some uptoSmall }

/-- 'hydrocascadelaw37.CauseHolds', WHERE WHAT IT READS IS OF BULK AT MOST 1048576: true; the input reads as it did. -/
def causeHoldsUptoRow : OpenClaim := { program := "ytmjcbljjnhmmnaa", sum := "969f8a133cdfc787f5c27aad60a4e09500490f6bcc5bc6f79a0d26a7525f5acd", func := "hydrocascade/hydrocascadelaw37.CauseHolds", spec := "causeHolds", inPlace := ["slices.overlaps[hydrocascade/api.Warning]", "slices.overlaps[hydrocascade/api.Cause]"], unfollowed := true, recurses := true, plainKeys := false, apart := false, narrowed := true }
def CauseHoldsUptoSaid : Prop := causeHoldsUptoRow.holds Try.pinned (OpenSpec.upto causeHoldsSpec)

/-- 'hydrocascadelaw37.CauseTwice', WHERE WHAT IT READS IS OF BULK AT MOST 1048576: true; the input reads as it did. -/
def causeTwiceUptoRow : OpenClaim := { program := "ytmjcbljjnhmmnaa", sum := "969f8a133cdfc787f5c27aad60a4e09500490f6bcc5bc6f79a0d26a7525f5acd", func := "hydrocascade/hydrocascadelaw37.CauseTwice", spec := "causeTwice", inPlace := ["slices.overlaps[hydrocascade/api.Warning]", "slices.overlaps[hydrocascade/api.Cause]"], unfollowed := true, recurses := true, plainKeys := false, apart := false, narrowed := true }
def CauseTwiceUptoSaid : Prop := causeTwiceUptoRow.holds Try.pinned (OpenSpec.upto causeTwiceSpec)

/-- 'hydrocascadelaw37.CauseDoes', WHERE WHAT IT READS IS OF BULK AT MOST 1048576: true; the input reads as it did. -/
def causeDoesUptoRow : OpenClaim := { program := "ytmjcbljjnhmmnaa", sum := "969f8a133cdfc787f5c27aad60a4e09500490f6bcc5bc6f79a0d26a7525f5acd", func := "hydrocascade/hydrocascadelaw37.CauseDoes", spec := "causeDoes", inPlace := ["slices.overlaps[hydrocascade/api.Warning]", "slices.overlaps[hydrocascade/api.Cause]"], unfollowed := true, recurses := true, plainKeys := false, apart := false, narrowed := true }
def CauseDoesUptoSaid : Prop := causeDoesUptoRow.holds Try.pinned (OpenSpec.upto causeDoesSpec)

end Rows
end Go.Proofs.Ytmjcbljjnhmmnaa
