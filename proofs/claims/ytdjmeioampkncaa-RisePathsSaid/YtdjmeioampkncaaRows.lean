/-
  No cell of these rows narrows 'for every input' (looked for: loops, veiled, ifaces, maps, wideKeys, modest, calm, conditions, laid).
  DERIVED. THE GIVEN ROWS OF THIS SEAT. 4 by the template 'for every input the law returns true; each argument reads behind the call as it read before'; 0 by the template 'total and deterministic' (their statements: YtdjmeioampkncaaTotals.lean).
  GIVEN WITH THE SEED: the statements are not yours to turn. If you find one false, say at which input.
  Laid BY PROGRAM, IN A SANDBOX (cutbox-rows.mjs): the forced cells as the released guide's own fill.sh prints them over the translation 20e2ac2fddc1979f… (all of the seat's roots in one cut). By AI agents, Wed Nov 11 2026. No macro, syntax, notation, axiom, sorry.
-/
import Derived.Test.YtdjmeioampkncaaChecked
import GoSem.Claim
import GoSem.ClaimJoined
import GoSem.ClaimMapViews
import Derived.JoinedTies
import Derived.KernelRfl
namespace Go.Proofs.Ytdjmeioampkncaa
/- THE CELL 'sum', in the pinned program and in every row, IS THE sha256 OF THE DUMP (.gsa) THAT YtdjmeioampkncaaProg.lean LOADS. Nothing in Lean hashes anything: it is a label: what it is worth is what the hold of that sum in a sandbox is worth. -/
noncomputable def Try.pinned : Pinned := { name := "ytdjmeioampkncaa", sum := "20e2ac2fddc1979ff49a422eebf06866e59c26133341e4883389a46d23422d1e", checked := Try.checked }
namespace Rows
def none {H : Type} : Left H := { results := [], args := [] }

/-- 'hydrocascadelaw35.RiseShifts': WHATEVER THE INPUT: true; the input reads as it did. -/
def riseShiftsSpec : ChangeSpec := { name := "riseShifts", fn := fun _ => fun
  | [d1, d2, d3, d4, d5] => { results := [.lit (.bool true)], args := [d1, d2, d3, d4, d5] }
  | _ => none }
def riseShiftsRow : OpenClaim := { program := "ytdjmeioampkncaa", sum := "20e2ac2fddc1979ff49a422eebf06866e59c26133341e4883389a46d23422d1e", func := "hydrocascade/hydrocascadelaw35.RiseShifts", spec := "riseShifts", apart := false }
def RiseShiftsSaid : Prop := riseShiftsRow.holds Try.pinned (OpenSpec.ofChange riseShiftsSpec)

/-- ITS FALSE NEIGHBOUR: 'it returns false'. Refute it at one input. -/
def riseShiftsWrong : ChangeSpec := { name := "riseShifts", fn := fun _ => fun
  | [d1, d2, d3, d4, d5] => { results := [.lit (.bool false)], args := [d1, d2, d3, d4, d5] }
  | _ => none }
def RiseShiftsWrongFalsely : Prop := riseShiftsRow.holds Try.pinned (OpenSpec.ofChange riseShiftsWrong)

/-- 'hydrocascadelaw35.RiseTells': WHATEVER THE INPUT: true; the input reads as it did. -/
def riseTellsSpec : ChangeSpec := { name := "riseTells", fn := fun _ => fun
  | [d1, d2, d3, d4, d5, d6, d7] => { results := [.lit (.bool true)], args := [d1, d2, d3, d4, d5, d6, d7] }
  | _ => none }
def riseTellsRow : OpenClaim := { program := "ytdjmeioampkncaa", sum := "20e2ac2fddc1979ff49a422eebf06866e59c26133341e4883389a46d23422d1e", func := "hydrocascade/hydrocascadelaw35.RiseTells", spec := "riseTells", apart := false }
def RiseTellsSaid : Prop := riseTellsRow.holds Try.pinned (OpenSpec.ofChange riseTellsSpec)

/-- ITS FALSE NEIGHBOUR: 'it returns false'. Refute it at one input. -/
def riseTellsWrong : ChangeSpec := { name := "riseTells", fn := fun _ => fun
  | [d1, d2, d3, d4, d5, d6, d7] => { results := [.lit (.bool false)], args := [d1, d2, d3, d4, d5, d6, d7] }
  | _ => none }
def RiseTellsWrongFalsely : Prop := riseTellsRow.holds Try.pinned (OpenSpec.ofChange riseTellsWrong)

/-- 'hydrocascadelaw35.RisePaths': WHATEVER THE INPUT: true; the input reads as it did. -/
def risePathsSpec : ChangeSpec := { name := "risePaths", fn := fun _ => fun
  | [d1, d2, d3, d4, d5] => { results := [.lit (.bool true)], args := [d1, d2, d3, d4, d5] }
  | _ => none }
def risePathsRow : OpenClaim := { program := "ytdjmeioampkncaa", sum := "20e2ac2fddc1979ff49a422eebf06866e59c26133341e4883389a46d23422d1e", func := "hydrocascade/hydrocascadelaw35.RisePaths", spec := "risePaths", apart := false }
def RisePathsSaid : Prop := risePathsRow.holds Try.pinned (OpenSpec.ofChange risePathsSpec)

/-- ITS FALSE NEIGHBOUR: 'it returns false'. Refute it at one input. -/
def risePathsWrong : ChangeSpec := { name := "risePaths", fn := fun _ => fun
  | [d1, d2, d3, d4, d5] => { results := [.lit (.bool false)], args := [d1, d2, d3, d4, d5] }
  | _ => none }
def RisePathsWrongFalsely : Prop := risePathsRow.holds Try.pinned (OpenSpec.ofChange risePathsWrong)

/-- 'hydrocascadelaw35.RiseLimits': WHATEVER THE INPUT: true; the input reads as it did. -/
def riseLimitsSpec : ChangeSpec := { name := "riseLimits", fn := fun _ => fun
  | [d1, d2, d3, d4, d5] => { results := [.lit (.bool true)], args := [d1, d2, d3, d4, d5] }
  | _ => none }
def riseLimitsRow : OpenClaim := { program := "ytdjmeioampkncaa", sum := "20e2ac2fddc1979ff49a422eebf06866e59c26133341e4883389a46d23422d1e", func := "hydrocascade/hydrocascadelaw35.RiseLimits", spec := "riseLimits", apart := false }
def RiseLimitsSaid : Prop := riseLimitsRow.holds Try.pinned (OpenSpec.ofChange riseLimitsSpec)

/-- ITS FALSE NEIGHBOUR: 'it returns false'. Refute it at one input. -/
def riseLimitsWrong : ChangeSpec := { name := "riseLimits", fn := fun _ => fun
  | [d1, d2, d3, d4, d5] => { results := [.lit (.bool false)], args := [d1, d2, d3, d4, d5] }
  | _ => none }
def RiseLimitsWrongFalsely : Prop := riseLimitsRow.holds Try.pinned (OpenSpec.ofChange riseLimitsWrong)

/- THE SECOND FORM. 'bulk': how many values and letters a reading holds, each counted each time it is reached (what is shared counts as often as it is met; a slice's spare places count too). A statement '..UptoSaid' is the law's where the arguments, and the package variables that the reading takes, are together of bulk at most 1048576: NARROWER than '..Said'. Prove '..Said' where nothing that the law and all that it calls make is longer than what came in: it says more and counts as full. Else prove '..UptoSaid'. A law counts once. -/
mutual
def uptoBulk {H : Type} : DataW H → Nat
  | .lit (.string bytes) => bytes.length + 1
  | .lit _ => 1
  | .nil => 1
  | .ptr d => uptoBulk d + 1
  | .slice elems spare => uptoBulkAll elems + uptoBulkAll spare + 1
  | .agg parts => uptoBulkAll parts + 1
  | .iface _ d => uptoBulk d + 1
  | .map entries => uptoBulkEntries entries + 1
  | .held _ => 1
def uptoBulkAll {H : Type} : List (DataW H) → Nat
  | [] => 0
  | d :: r => uptoBulk d + uptoBulkAll r
def uptoBulkEntries {H : Type} : List (Lit × DataW H) → Nat
  | [] => 0
  | x :: r => uptoBulkEntry x + uptoBulkEntries r
def uptoBulkEntry {H : Type} : Lit × DataW H → Nat
  | (.string bytes, d) => bytes.length + uptoBulk d + 1
  | (_, d) => uptoBulk d + 1
 end
def uptoSmall : (H : Type) → List (DataW H) → Bool := fun _ ds => decide (uptoBulkAll ds ≤ 1048576)
def OpenSpec.upto (s : _root_.Go.ChangeSpec) : _root_.Go.OpenSpec := { _root_.Go.OpenSpec.ofChange s with cond := some uptoSmall }

/-- 'hydrocascadelaw35.RiseShifts', WHERE WHAT IT READS IS OF BULK AT MOST 1048576: true; the input reads as it did. -/
def riseShiftsUptoRow : OpenClaim := { program := "ytdjmeioampkncaa", sum := "20e2ac2fddc1979ff49a422eebf06866e59c26133341e4883389a46d23422d1e", func := "hydrocascade/hydrocascadelaw35.RiseShifts", spec := "riseShifts", apart := false, narrowed := true }
def RiseShiftsUptoSaid : Prop := riseShiftsUptoRow.holds Try.pinned (OpenSpec.upto riseShiftsSpec)

/-- 'hydrocascadelaw35.RiseTells', WHERE WHAT IT READS IS OF BULK AT MOST 1048576: true; the input reads as it did. -/
def riseTellsUptoRow : OpenClaim := { program := "ytdjmeioampkncaa", sum := "20e2ac2fddc1979ff49a422eebf06866e59c26133341e4883389a46d23422d1e", func := "hydrocascade/hydrocascadelaw35.RiseTells", spec := "riseTells", apart := false, narrowed := true }
def RiseTellsUptoSaid : Prop := riseTellsUptoRow.holds Try.pinned (OpenSpec.upto riseTellsSpec)

/-- 'hydrocascadelaw35.RisePaths', WHERE WHAT IT READS IS OF BULK AT MOST 1048576: true; the input reads as it did. -/
def risePathsUptoRow : OpenClaim := { program := "ytdjmeioampkncaa", sum := "20e2ac2fddc1979ff49a422eebf06866e59c26133341e4883389a46d23422d1e", func := "hydrocascade/hydrocascadelaw35.RisePaths", spec := "risePaths", apart := false, narrowed := true }
def RisePathsUptoSaid : Prop := risePathsUptoRow.holds Try.pinned (OpenSpec.upto risePathsSpec)

/-- 'hydrocascadelaw35.RiseLimits', WHERE WHAT IT READS IS OF BULK AT MOST 1048576: true; the input reads as it did. -/
def riseLimitsUptoRow : OpenClaim := { program := "ytdjmeioampkncaa", sum := "20e2ac2fddc1979ff49a422eebf06866e59c26133341e4883389a46d23422d1e", func := "hydrocascade/hydrocascadelaw35.RiseLimits", spec := "riseLimits", apart := false, narrowed := true }
def RiseLimitsUptoSaid : Prop := riseLimitsUptoRow.holds Try.pinned (OpenSpec.upto riseLimitsSpec)

end Rows
end Go.Proofs.Ytdjmeioampkncaa
