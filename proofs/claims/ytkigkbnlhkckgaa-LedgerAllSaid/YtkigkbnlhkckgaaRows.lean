/-
  No cell of these rows narrows 'for every input' (looked for: loops, veiled, ifaces, maps, wideKeys, modest, calm, conditions, laid).
  DERIVED. THE GIVEN ROWS OF THIS SEAT. 6 by the template 'for every input the law returns true; each argument reads behind the call as it read before'; 0 by the template 'total and deterministic' (their statements: YtkigkbnlhkckgaaTotals.lean).
  GIVEN WITH THE SEED: the statements are not yours to turn. If you find one false, say at which input.
  Laid BY PROGRAM, IN A SANDBOX (cutbox-rows.mjs): the forced cells as the released guide's own fill.sh prints them over the translation bdcd0718b4c2d4c8… (all of the seat's roots in one cut). By AI agents, Wed Nov 11 2026. No macro, syntax, notation, axiom, sorry.
-/
import Derived.Test.YtkigkbnlhkckgaaChecked
import GoSem.Claim
import GoSem.ClaimJoined
import GoSem.ClaimMapViews
import Derived.JoinedTies
import Derived.KernelRfl
namespace Go.Proofs.Ytkigkbnlhkckgaa
/- THE CELL 'sum', in the pinned program and in every row, IS THE sha256 OF THE DUMP (.gsa) THAT YtkigkbnlhkckgaaProg.lean LOADS. Nothing in Lean hashes anything: it is a label: what it is worth is what the hold of that sum in a sandbox is worth. -/
noncomputable def Try.pinned : Pinned := { name := "ytkigkbnlhkckgaa", sum := "bdcd0718b4c2d4c85f2dfb6fd12a4d2b039a8eb1ef500d3765091e58687542d9", checked := Try.checked }
namespace Rows
def none {H : Type} : Left H := { results := [], args := [] }

/-- 'hydrocascadelaw30.LedgerAll': WHATEVER THE INPUT: true; the input reads as it did. -/
def ledgerAllSpec : ChangeSpec := { name := "ledgerAll", fn := fun _ => fun
  | [d] => { results := [.lit (.bool true)], args := [d] }
  | _ => none }
def ledgerAllRow : OpenClaim := { program := "ytkigkbnlhkckgaa", sum := "bdcd0718b4c2d4c85f2dfb6fd12a4d2b039a8eb1ef500d3765091e58687542d9", func := "hydrocascade/hydrocascadelaw30.LedgerAll", spec := "ledgerAll", unfollowed := true, recurses := true, apart := false }
def LedgerAllSaid : Prop := ledgerAllRow.holds Try.pinned (OpenSpec.ofChange ledgerAllSpec)

/-- ITS FALSE NEIGHBOUR: 'it returns false'. Refute it at one input. -/
def ledgerAllWrong : ChangeSpec := { name := "ledgerAll", fn := fun _ => fun
  | [d] => { results := [.lit (.bool false)], args := [d] }
  | _ => none }
def LedgerAllWrongFalsely : Prop := ledgerAllRow.holds Try.pinned (OpenSpec.ofChange ledgerAllWrong)

/-- 'hydrocascadelaw30.LedgerExact': WHATEVER THE INPUT: true; the input reads as it did. -/
def ledgerExactSpec : ChangeSpec := { name := "ledgerExact", fn := fun _ => fun
  | [d1, d2] => { results := [.lit (.bool true)], args := [d1, d2] }
  | _ => none }
def ledgerExactRow : OpenClaim := { program := "ytkigkbnlhkckgaa", sum := "bdcd0718b4c2d4c85f2dfb6fd12a4d2b039a8eb1ef500d3765091e58687542d9", func := "hydrocascade/hydrocascadelaw30.LedgerExact", spec := "ledgerExact", unfollowed := true, recurses := true, apart := false }
def LedgerExactSaid : Prop := ledgerExactRow.holds Try.pinned (OpenSpec.ofChange ledgerExactSpec)

/-- ITS FALSE NEIGHBOUR: 'it returns false'. Refute it at one input. -/
def ledgerExactWrong : ChangeSpec := { name := "ledgerExact", fn := fun _ => fun
  | [d1, d2] => { results := [.lit (.bool false)], args := [d1, d2] }
  | _ => none }
def LedgerExactWrongFalsely : Prop := ledgerExactRow.holds Try.pinned (OpenSpec.ofChange ledgerExactWrong)

/-- 'hydrocascadelaw30.LedgerTrue': WHATEVER THE INPUT: true; the input reads as it did. -/
def ledgerTrueSpec : ChangeSpec := { name := "ledgerTrue", fn := fun _ => fun
  | [d1, d2, d3] => { results := [.lit (.bool true)], args := [d1, d2, d3] }
  | _ => none }
def ledgerTrueRow : OpenClaim := { program := "ytkigkbnlhkckgaa", sum := "bdcd0718b4c2d4c85f2dfb6fd12a4d2b039a8eb1ef500d3765091e58687542d9", func := "hydrocascade/hydrocascadelaw30.LedgerTrue", spec := "ledgerTrue", unfollowed := true, recurses := true, apart := false }
def LedgerTrueSaid : Prop := ledgerTrueRow.holds Try.pinned (OpenSpec.ofChange ledgerTrueSpec)

/-- ITS FALSE NEIGHBOUR: 'it returns false'. Refute it at one input. -/
def ledgerTrueWrong : ChangeSpec := { name := "ledgerTrue", fn := fun _ => fun
  | [d1, d2, d3] => { results := [.lit (.bool false)], args := [d1, d2, d3] }
  | _ => none }
def LedgerTrueWrongFalsely : Prop := ledgerTrueRow.holds Try.pinned (OpenSpec.ofChange ledgerTrueWrong)

/-- 'hydrocascadelaw30.LedgerSharp': WHATEVER THE INPUT: true; the input reads as it did. -/
def ledgerSharpSpec : ChangeSpec := { name := "ledgerSharp", fn := fun _ => fun
  | [d1, d2, d3, d4] => { results := [.lit (.bool true)], args := [d1, d2, d3, d4] }
  | _ => none }
def ledgerSharpRow : OpenClaim := { program := "ytkigkbnlhkckgaa", sum := "bdcd0718b4c2d4c85f2dfb6fd12a4d2b039a8eb1ef500d3765091e58687542d9", func := "hydrocascade/hydrocascadelaw30.LedgerSharp", spec := "ledgerSharp", unfollowed := true, recurses := true, apart := false }
def LedgerSharpSaid : Prop := ledgerSharpRow.holds Try.pinned (OpenSpec.ofChange ledgerSharpSpec)

/-- ITS FALSE NEIGHBOUR: 'it returns false'. Refute it at one input. -/
def ledgerSharpWrong : ChangeSpec := { name := "ledgerSharp", fn := fun _ => fun
  | [d1, d2, d3, d4] => { results := [.lit (.bool false)], args := [d1, d2, d3, d4] }
  | _ => none }
def LedgerSharpWrongFalsely : Prop := ledgerSharpRow.holds Try.pinned (OpenSpec.ofChange ledgerSharpWrong)

/-- 'hydrocascadelaw30.LedgerTwice': WHATEVER THE INPUT: true; the input reads as it did. -/
def ledgerTwiceSpec : ChangeSpec := { name := "ledgerTwice", fn := fun _ => fun
  | [d] => { results := [.lit (.bool true)], args := [d] }
  | _ => none }
def ledgerTwiceRow : OpenClaim := { program := "ytkigkbnlhkckgaa", sum := "bdcd0718b4c2d4c85f2dfb6fd12a4d2b039a8eb1ef500d3765091e58687542d9", func := "hydrocascade/hydrocascadelaw30.LedgerTwice", spec := "ledgerTwice", unfollowed := true, recurses := true, apart := false }
def LedgerTwiceSaid : Prop := ledgerTwiceRow.holds Try.pinned (OpenSpec.ofChange ledgerTwiceSpec)

/-- ITS FALSE NEIGHBOUR: 'it returns false'. Refute it at one input. -/
def ledgerTwiceWrong : ChangeSpec := { name := "ledgerTwice", fn := fun _ => fun
  | [d] => { results := [.lit (.bool false)], args := [d] }
  | _ => none }
def LedgerTwiceWrongFalsely : Prop := ledgerTwiceRow.holds Try.pinned (OpenSpec.ofChange ledgerTwiceWrong)

/-- 'hydrocascadelaw30.LedgerTells': WHATEVER THE INPUT: true; the input reads as it did. -/
def ledgerTellsSpec : ChangeSpec := { name := "ledgerTells", fn := fun _ => fun
  | [d1, d2, d3, d4, d5, d6, d7, d8] => { results := [.lit (.bool true)], args := [d1, d2, d3, d4, d5, d6, d7, d8] }
  | _ => none }
def ledgerTellsRow : OpenClaim := { program := "ytkigkbnlhkckgaa", sum := "bdcd0718b4c2d4c85f2dfb6fd12a4d2b039a8eb1ef500d3765091e58687542d9", func := "hydrocascade/hydrocascadelaw30.LedgerTells", spec := "ledgerTells", unfollowed := true, recurses := true, apart := false }
def LedgerTellsSaid : Prop := ledgerTellsRow.holds Try.pinned (OpenSpec.ofChange ledgerTellsSpec)

/-- ITS FALSE NEIGHBOUR: 'it returns false'. Refute it at one input. -/
def ledgerTellsWrong : ChangeSpec := { name := "ledgerTells", fn := fun _ => fun
  | [d1, d2, d3, d4, d5, d6, d7, d8] => { results := [.lit (.bool false)], args := [d1, d2, d3, d4, d5, d6, d7, d8] }
  | _ => none }
def LedgerTellsWrongFalsely : Prop := ledgerTellsRow.holds Try.pinned (OpenSpec.ofChange ledgerTellsWrong)

/- THE SECOND FORM. 'bulk': how many values and letters a reading holds, each counted each time it is reached (what is shared counts as often as it is met; a slice's spare places count too). A statement '..UptoSaid' is the law's where the arguments, and the package variables that the reading takes, are together of bulk at most 1048576: NARROWER than '..Said'. Prove '..Said' where nothing that the law and all that it calls make is longer than what came in: it says more and counts as full. Else prove '..UptoSaid'. A law counts once. -/
mutual
def uptoBulk {H : Type} : DataW H → Nat
  | .lit (.string bytes) => bytes.length + 1
  | .lit _ => 1
  | .nil => 1
  | .ptr d => uptoBulk d + 1
  | .slice elems spare => uptoBulkAll elems + uptoBulkAll spare + 1
  | .agg parts => uptoBulkAll parts + 1
  | .iface _ d => uptoBulk d + 1
  | .map entries => uptoBulkEntries entries + 1
  | .held _ => 1
def uptoBulkAll {H : Type} : List (DataW H) → Nat
  | [] => 0
  | d :: r => uptoBulk d + uptoBulkAll r
def uptoBulkEntries {H : Type} : List (Lit × DataW H) → Nat
  | [] => 0
  | x :: r => uptoBulkEntry x + uptoBulkEntries r
def uptoBulkEntry {H : Type} : Lit × DataW H → Nat
  | (.string bytes, d) => bytes.length + uptoBulk d + 1
  | (_, d) => uptoBulk d + 1
 end
def uptoSmall : (H : Type) → List (DataW H) → Bool := fun _ ds => decide (uptoBulkAll ds ≤ 1048576)
def OpenSpec.upto (s : _root_.Go.ChangeSpec) : _root_.Go.OpenSpec := { _root_.Go.OpenSpec.ofChange s with cond := some uptoSmall }

/-- 'hydrocascadelaw30.LedgerAll', WHERE WHAT IT READS IS OF BULK AT MOST 1048576: true; the input reads as it did. -/
def ledgerAllUptoRow : OpenClaim := { program := "ytkigkbnlhkckgaa", sum := "bdcd0718b4c2d4c85f2dfb6fd12a4d2b039a8eb1ef500d3765091e58687542d9", func := "hydrocascade/hydrocascadelaw30.LedgerAll", spec := "ledgerAll", unfollowed := true, recurses := true, apart := false, narrowed := true }
def LedgerAllUptoSaid : Prop := ledgerAllUptoRow.holds Try.pinned (OpenSpec.upto ledgerAllSpec)

/-- 'hydrocascadelaw30.LedgerExact', WHERE WHAT IT READS IS OF BULK AT MOST 1048576: true; the input reads as it did. -/
def ledgerExactUptoRow : OpenClaim := { program := "ytkigkbnlhkckgaa", sum := "bdcd0718b4c2d4c85f2dfb6fd12a4d2b039a8eb1ef500d3765091e58687542d9", func := "hydrocascade/hydrocascadelaw30.LedgerExact", spec := "ledgerExact", unfollowed := true, recurses := true, apart := false, narrowed := true }
def LedgerExactUptoSaid : Prop := ledgerExactUptoRow.holds Try.pinned (OpenSpec.upto ledgerExactSpec)

/-- 'hydrocascadelaw30.LedgerTrue', WHERE WHAT IT READS IS OF BULK AT MOST 1048576: true; the input reads as it did. -/
def ledgerTrueUptoRow : OpenClaim := { program := "ytkigkbnlhkckgaa", sum := "bdcd0718b4c2d4c85f2dfb6fd12a4d2b039a8eb1ef500d3765091e58687542d9", func := "hydrocascade/hydrocascadelaw30.LedgerTrue", spec := "ledgerTrue", unfollowed := true, recurses := true, apart := false, narrowed := true }
def LedgerTrueUptoSaid : Prop := ledgerTrueUptoRow.holds Try.pinned (OpenSpec.upto ledgerTrueSpec)

/-- 'hydrocascadelaw30.LedgerSharp', WHERE WHAT IT READS IS OF BULK AT MOST 1048576: true; the input reads as it did. -/
def ledgerSharpUptoRow : OpenClaim := { program := "ytkigkbnlhkckgaa", sum := "bdcd0718b4c2d4c85f2dfb6fd12a4d2b039a8eb1ef500d3765091e58687542d9", func := "hydrocascade/hydrocascadelaw30.LedgerSharp", spec := "ledgerSharp", unfollowed := true, recurses := true, apart := false, narrowed := true }
def LedgerSharpUptoSaid : Prop := ledgerSharpUptoRow.holds Try.pinned (OpenSpec.upto ledgerSharpSpec)

/-- 'hydrocascadelaw30.LedgerTwice', WHERE WHAT IT READS IS OF BULK AT MOST 1048576: true; the input reads as it did. -/
def ledgerTwiceUptoRow : OpenClaim := { program := "ytkigkbnlhkckgaa", sum := "bdcd0718b4c2d4c85f2dfb6fd12a4d2b039a8eb1ef500d3765091e58687542d9", func := "hydrocascade/hydrocascadelaw30.LedgerTwice", spec := "ledgerTwice", unfollowed := true, recurses := true, apart := false, narrowed := true }
def LedgerTwiceUptoSaid : Prop := ledgerTwiceUptoRow.holds Try.pinned (OpenSpec.upto ledgerTwiceSpec)

/-- 'hydrocascadelaw30.LedgerTells', WHERE WHAT IT READS IS OF BULK AT MOST 1048576: true; the input reads as it did. -/
def ledgerTellsUptoRow : OpenClaim := { program := "ytkigkbnlhkckgaa", sum := "bdcd0718b4c2d4c85f2dfb6fd12a4d2b039a8eb1ef500d3765091e58687542d9", func := "hydrocascade/hydrocascadelaw30.LedgerTells", spec := "ledgerTells", unfollowed := true, recurses := true, apart := false, narrowed := true }
def LedgerTellsUptoSaid : Prop := ledgerTellsUptoRow.holds Try.pinned (OpenSpec.upto ledgerTellsSpec)

end Rows
end Go.Proofs.Ytkigkbnlhkckgaa
