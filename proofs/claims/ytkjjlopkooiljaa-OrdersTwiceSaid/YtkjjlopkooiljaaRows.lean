/-
  No cell of these rows narrows 'for every input' (looked for: loops, veiled, ifaces, maps, wideKeys, modest, calm, conditions, laid).
  DERIVED. THE GIVEN ROWS OF THIS SEAT. 4 by the template 'for every input the law returns true; each argument reads behind the call as it read before'; 0 by the template 'total and deterministic' (their statements: YtkjjlopkooiljaaTotals.lean).
  GIVEN WITH THE SEED: the statements are not yours to turn. If you find one false, say at which input.
  Laid BY PROGRAM, IN A SANDBOX (cutbox-rows.mjs): the forced cells as the released guide's own fill.sh prints them over the translation 8cbef9ed0c057773… (all of the seat's roots in one cut). By AI agents, Wed Nov 11 2026. No macro, syntax, notation, axiom, sorry.
-/
import Derived.Test.YtkjjlopkooiljaaChecked
import GoSem.Claim
import GoSem.ClaimJoined
import GoSem.ClaimMapViews
import Derived.JoinedTies
import Derived.KernelRfl
namespace Go.Proofs.Ytkjjlopkooiljaa
/- THE CELL 'sum', in the pinned program and in every row, IS THE sha256 OF THE DUMP (.gsa) THAT YtkjjlopkooiljaaProg.lean LOADS. Nothing in Lean hashes anything: it is a label: what it is worth is what the hold of that sum in a sandbox is worth. -/
noncomputable def Try.pinned : Pinned := { name := "ytkjjlopkooiljaa", sum := "8cbef9ed0c05777300adac95e31267199a56563793c9f721aa14b231b9f668ff", checked := Try.checked }
namespace Rows
def none {H : Type} : Left H := { results := [], args := [] }

/-- 'hydrocascadelaw27.OrdersLines': WHATEVER THE INPUT: true; the input reads as it did. -/
def ordersLinesSpec : ChangeSpec := { name := "ordersLines", fn := fun _ => fun
  | [d] => { results := [.lit (.bool true)], args := [d] }
  | _ => none }
def ordersLinesRow : OpenClaim := { program := "ytkjjlopkooiljaa", sum := "8cbef9ed0c05777300adac95e31267199a56563793c9f721aa14b231b9f668ff", func := "hydrocascade/hydrocascadelaw27.OrdersLines", spec := "ordersLines", inPlace := ["slices.overlaps[hydrocascade/api.Order]"], unfollowed := true, recurses := true, apart := false }
def OrdersLinesSaid : Prop := ordersLinesRow.holds Try.pinned (OpenSpec.ofChange ordersLinesSpec)

/-- ITS FALSE NEIGHBOUR: 'it returns false'. Refute it at one input. -/
def ordersLinesWrong : ChangeSpec := { name := "ordersLines", fn := fun _ => fun
  | [d] => { results := [.lit (.bool false)], args := [d] }
  | _ => none }
def OrdersLinesWrongFalsely : Prop := ordersLinesRow.holds Try.pinned (OpenSpec.ofChange ordersLinesWrong)

/-- 'hydrocascadelaw27.OrdersLimits': WHATEVER THE INPUT: true; the input reads as it did. -/
def ordersLimitsSpec : ChangeSpec := { name := "ordersLimits", fn := fun _ => fun
  | [d1, d2] => { results := [.lit (.bool true)], args := [d1, d2] }
  | _ => none }
def ordersLimitsRow : OpenClaim := { program := "ytkjjlopkooiljaa", sum := "8cbef9ed0c05777300adac95e31267199a56563793c9f721aa14b231b9f668ff", func := "hydrocascade/hydrocascadelaw27.OrdersLimits", spec := "ordersLimits", inPlace := ["slices.overlaps[hydrocascade/api.Order]"], unfollowed := true, recurses := true, apart := false }
def OrdersLimitsSaid : Prop := ordersLimitsRow.holds Try.pinned (OpenSpec.ofChange ordersLimitsSpec)

/-- ITS FALSE NEIGHBOUR: 'it returns false'. Refute it at one input. -/
def ordersLimitsWrong : ChangeSpec := { name := "ordersLimits", fn := fun _ => fun
  | [d1, d2] => { results := [.lit (.bool false)], args := [d1, d2] }
  | _ => none }
def OrdersLimitsWrongFalsely : Prop := ordersLimitsRow.holds Try.pinned (OpenSpec.ofChange ordersLimitsWrong)

/-- 'hydrocascadelaw27.OrdersDoes': WHATEVER THE INPUT: true; the input reads as it did. -/
def ordersDoesSpec : ChangeSpec := { name := "ordersDoes", fn := fun _ => fun
  | [d1, d2, d3, d4, d5] => { results := [.lit (.bool true)], args := [d1, d2, d3, d4, d5] }
  | _ => none }
def ordersDoesRow : OpenClaim := { program := "ytkjjlopkooiljaa", sum := "8cbef9ed0c05777300adac95e31267199a56563793c9f721aa14b231b9f668ff", func := "hydrocascade/hydrocascadelaw27.OrdersDoes", spec := "ordersDoes", inPlace := ["slices.overlaps[hydrocascade/api.Order]"], unfollowed := true, recurses := true, apart := false }
def OrdersDoesSaid : Prop := ordersDoesRow.holds Try.pinned (OpenSpec.ofChange ordersDoesSpec)

/-- ITS FALSE NEIGHBOUR: 'it returns false'. Refute it at one input. -/
def ordersDoesWrong : ChangeSpec := { name := "ordersDoes", fn := fun _ => fun
  | [d1, d2, d3, d4, d5] => { results := [.lit (.bool false)], args := [d1, d2, d3, d4, d5] }
  | _ => none }
def OrdersDoesWrongFalsely : Prop := ordersDoesRow.holds Try.pinned (OpenSpec.ofChange ordersDoesWrong)

/-- 'hydrocascadelaw27.OrdersTwice': WHATEVER THE INPUT: true; the input reads as it did. -/
def ordersTwiceSpec : ChangeSpec := { name := "ordersTwice", fn := fun _ => fun
  | [d1, d2] => { results := [.lit (.bool true)], args := [d1, d2] }
  | _ => none }
def ordersTwiceRow : OpenClaim := { program := "ytkjjlopkooiljaa", sum := "8cbef9ed0c05777300adac95e31267199a56563793c9f721aa14b231b9f668ff", func := "hydrocascade/hydrocascadelaw27.OrdersTwice", spec := "ordersTwice", inPlace := ["slices.overlaps[hydrocascade/api.Order]"], unfollowed := true, recurses := true, apart := false }
def OrdersTwiceSaid : Prop := ordersTwiceRow.holds Try.pinned (OpenSpec.ofChange ordersTwiceSpec)

/-- ITS FALSE NEIGHBOUR: 'it returns false'. Refute it at one input. -/
def ordersTwiceWrong : ChangeSpec := { name := "ordersTwice", fn := fun _ => fun
  | [d1, d2] => { results := [.lit (.bool false)], args := [d1, d2] }
  | _ => none }
def OrdersTwiceWrongFalsely : Prop := ordersTwiceRow.holds Try.pinned (OpenSpec.ofChange ordersTwiceWrong)

/- THE SECOND FORM. 'bulk': how many values and letters a reading holds, each counted each time it is reached (what is shared counts as often as it is met; a slice's spare places count too). A statement '..UptoSaid' is the law's where the arguments, and the package variables that the reading takes, are together of bulk at most 1048576: NARROWER than '..Said'. Prove '..Said' where nothing that the law and all that it calls make is longer than what came in: it says more and counts as full. Else prove '..UptoSaid'. A law counts once. -/
mutual
def uptoBulk {H : Type} : DataW H → Nat
  | .lit (.string bytes) => bytes.length + 1
  | .lit _ => 1
  | .nil => 1
  | .ptr d => uptoBulk d + 1
  | .slice elems spare => uptoBulkAll elems + uptoBulkAll spare + 1
  | .agg parts => uptoBulkAll parts + 1
  | .iface _ d => uptoBulk d + 1
  | .map entries => uptoBulkEntries entries + 1
  | .held _ => 1
def uptoBulkAll {H : Type} : List (DataW H) → Nat
  | [] => 0
  | d :: r => uptoBulk d + uptoBulkAll r
def uptoBulkEntries {H : Type} : List (Lit × DataW H) → Nat
  | [] => 0
  | x :: r => uptoBulkEntry x + uptoBulkEntries r
def uptoBulkEntry {H : Type} : Lit × DataW H → Nat
  | (.string bytes, d) => bytes.length + uptoBulk d + 1
  | (_, d) => uptoBulk d + 1
 end
def uptoSmall : (H : Type) → List (DataW H) → Bool := fun _ ds => decide (uptoBulkAll ds ≤ 1048576)
def OpenSpec.upto (s : _root_.Go.ChangeSpec) : _root_.Go.OpenSpec := { _root_.Go.OpenSpec.ofChange s with cond := some uptoSmall }

/-- 'hydrocascadelaw27.OrdersLines', WHERE WHAT IT READS IS OF BULK AT MOST 1048576: true; the input reads as it did. -/
def ordersLinesUptoRow : OpenClaim := { program := "ytkjjlopkooiljaa", sum := "8cbef9ed0c05777300adac95e31267199a56563793c9f721aa14b231b9f668ff", func := "hydrocascade/hydrocascadelaw27.OrdersLines", spec := "ordersLines", inPlace := ["slices.overlaps[hydrocascade/api.Order]"], unfollowed := true, recurses := true, apart := false, narrowed := true }
def OrdersLinesUptoSaid : Prop := ordersLinesUptoRow.holds Try.pinned (OpenSpec.upto ordersLinesSpec)

/-- 'hydrocascadelaw27.OrdersLimits', WHERE WHAT IT READS IS OF BULK AT MOST 1048576: true; the input reads as it did. -/
def ordersLimitsUptoRow : OpenClaim := { program := "ytkjjlopkooiljaa", sum := "8cbef9ed0c05777300adac95e31267199a56563793c9f721aa14b231b9f668ff", func := "hydrocascade/hydrocascadelaw27.OrdersLimits", spec := "ordersLimits", inPlace := ["slices.overlaps[hydrocascade/api.Order]"], unfollowed := true, recurses := true, apart := false, narrowed := true }
def OrdersLimitsUptoSaid : Prop := ordersLimitsUptoRow.holds Try.pinned (OpenSpec.upto ordersLimitsSpec)

/-- 'hydrocascadelaw27.OrdersDoes', WHERE WHAT IT READS IS OF BULK AT MOST 1048576: true; the input reads as it did. -/
def ordersDoesUptoRow : OpenClaim := { program := "ytkjjlopkooiljaa", sum := "8cbef9ed0c05777300adac95e31267199a56563793c9f721aa14b231b9f668ff", func := "hydrocascade/hydrocascadelaw27.OrdersDoes", spec := "ordersDoes", inPlace := ["slices.overlaps[hydrocascade/api.Order]"], unfollowed := true, recurses := true, apart := false, narrowed := true }
def OrdersDoesUptoSaid : Prop := ordersDoesUptoRow.holds Try.pinned (OpenSpec.upto ordersDoesSpec)

/-- 'hydrocascadelaw27.OrdersTwice', WHERE WHAT IT READS IS OF BULK AT MOST 1048576: true; the input reads as it did. -/
def ordersTwiceUptoRow : OpenClaim := { program := "ytkjjlopkooiljaa", sum := "8cbef9ed0c05777300adac95e31267199a56563793c9f721aa14b231b9f668ff", func := "hydrocascade/hydrocascadelaw27.OrdersTwice", spec := "ordersTwice", inPlace := ["slices.overlaps[hydrocascade/api.Order]"], unfollowed := true, recurses := true, apart := false, narrowed := true }
def OrdersTwiceUptoSaid : Prop := ordersTwiceUptoRow.holds Try.pinned (OpenSpec.upto ordersTwiceSpec)

end Rows
end Go.Proofs.Ytkjjlopkooiljaa
