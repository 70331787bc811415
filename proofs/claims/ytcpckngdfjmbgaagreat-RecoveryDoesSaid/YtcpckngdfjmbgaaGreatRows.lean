/-
  No cell of these rows narrows 'for every input' (looked for: loops, veiled, ifaces, maps, wideKeys, modest, calm, conditions, laid).
  DERIVED. THE GIVEN ROWS OF THIS SEAT. 4 by the template 'for every input the law returns true; each argument reads behind the call as it read before'; 0 by the template 'total and deterministic' (their statements: YtcpckngdfjmbgaaGreatTotals.lean).
  GIVEN WITH THE SEED: the statements are not yours to turn. If you find one false, say at which input.
  Laid BY PROGRAM, IN A SANDBOX (cutbox-rows.mjs): the forced cells as the released guide's own fill.sh prints them over the translation fdded14b4fd68c82… (all of the seat's roots in one cut). By AI agents, Wed Nov 11 2026. No macro, syntax, notation, axiom, sorry.
-/
import Derived.Test.YtcpckngdfjmbgaaGreatChecked
import GoSem.Claim
import GoSem.ClaimJoined
import GoSem.ClaimMapViews
import Derived.JoinedTies
import Derived.KernelRfl
namespace Go.Proofs.YtcpckngdfjmbgaaGreat
/- THE CELL 'sum', in the pinned program and in every row, IS THE sha256 OF THE DUMP (.gsa) THAT YtcpckngdfjmbgaaGreatProg.lean LOADS. Nothing in Lean hashes anything: it is a label: what it is worth is what the hold of that sum in a sandbox is worth. -/
noncomputable def Tryz.pinned : Pinned := { name := "ytcpckngdfjmbgaagreat", sum := "fdded14b4fd68c82dd171bd2c2f0b05f4a3ab615852fa559b5ba2a72219a9bb5", checked := Tryz.checked }
namespace Rows
def none {H : Type} : Left H := { results := [], args := [] }

/-- 'hydrocascadelaw33.RecoveryDoes': WHATEVER THE INPUT: true; the input reads as it did. -/
def recoveryDoesSpec : ChangeSpec := { name := "recoveryDoes", fn := fun _ => fun
  | [d1, d2, d3] => { results := [.lit (.bool true)], args := [d1, d2, d3] }
  | _ => none }
def recoveryDoesRow : OpenClaim := { program := "ytcpckngdfjmbgaagreat", sum := "fdded14b4fd68c82dd171bd2c2f0b05f4a3ab615852fa559b5ba2a72219a9bb5", func := "hydrocascade/hydrocascadelaw33.RecoveryDoes", spec := "recoveryDoes", inPlace := ["slices.overlaps[hydrocascade/api.Report]"], unfollowed := true, recurses := true, apart := false }
def RecoveryDoesSaid : Prop := recoveryDoesRow.holds Tryz.pinned (OpenSpec.ofChange recoveryDoesSpec)

/-- ITS FALSE NEIGHBOUR: 'it returns false'. Refute it at one input. -/
def recoveryDoesWrong : ChangeSpec := { name := "recoveryDoes", fn := fun _ => fun
  | [d1, d2, d3] => { results := [.lit (.bool false)], args := [d1, d2, d3] }
  | _ => none }
def RecoveryDoesWrongFalsely : Prop := recoveryDoesRow.holds Tryz.pinned (OpenSpec.ofChange recoveryDoesWrong)

/-- 'hydrocascadelaw33.RecoveryReplays': WHATEVER THE INPUT: true; the input reads as it did. -/
def recoveryReplaysSpec : ChangeSpec := { name := "recoveryReplays", fn := fun _ => fun
  | [d1, d2, d3] => { results := [.lit (.bool true)], args := [d1, d2, d3] }
  | _ => none }
def recoveryReplaysRow : OpenClaim := { program := "ytcpckngdfjmbgaagreat", sum := "fdded14b4fd68c82dd171bd2c2f0b05f4a3ab615852fa559b5ba2a72219a9bb5", func := "hydrocascade/hydrocascadelaw33.RecoveryReplays", spec := "recoveryReplays", inPlace := ["slices.overlaps[hydrocascade/api.Report]"], unfollowed := true, recurses := true, apart := false }
def RecoveryReplaysSaid : Prop := recoveryReplaysRow.holds Tryz.pinned (OpenSpec.ofChange recoveryReplaysSpec)

/-- ITS FALSE NEIGHBOUR: 'it returns false'. Refute it at one input. -/
def recoveryReplaysWrong : ChangeSpec := { name := "recoveryReplays", fn := fun _ => fun
  | [d1, d2, d3] => { results := [.lit (.bool false)], args := [d1, d2, d3] }
  | _ => none }
def RecoveryReplaysWrongFalsely : Prop := recoveryReplaysRow.holds Tryz.pinned (OpenSpec.ofChange recoveryReplaysWrong)

/-- 'hydrocascadelaw33.RecoveryCrash': WHATEVER THE INPUT: true; the input reads as it did. -/
def recoveryCrashSpec : ChangeSpec := { name := "recoveryCrash", fn := fun _ => fun
  | [d1, d2, d3, d4] => { results := [.lit (.bool true)], args := [d1, d2, d3, d4] }
  | _ => none }
def recoveryCrashRow : OpenClaim := { program := "ytcpckngdfjmbgaagreat", sum := "fdded14b4fd68c82dd171bd2c2f0b05f4a3ab615852fa559b5ba2a72219a9bb5", func := "hydrocascade/hydrocascadelaw33.RecoveryCrash", spec := "recoveryCrash", inPlace := ["slices.overlaps[hydrocascade/api.Report]"], unfollowed := true, recurses := true, apart := false }
def RecoveryCrashSaid : Prop := recoveryCrashRow.holds Tryz.pinned (OpenSpec.ofChange recoveryCrashSpec)

/-- ITS FALSE NEIGHBOUR: 'it returns false'. Refute it at one input. -/
def recoveryCrashWrong : ChangeSpec := { name := "recoveryCrash", fn := fun _ => fun
  | [d1, d2, d3, d4] => { results := [.lit (.bool false)], args := [d1, d2, d3, d4] }
  | _ => none }
def RecoveryCrashWrongFalsely : Prop := recoveryCrashRow.holds Tryz.pinned (OpenSpec.ofChange recoveryCrashWrong)

/-- 'hydrocascadelaw33.RecoveryParts': WHATEVER THE INPUT: true; the input reads as it did. -/
def recoveryPartsSpec : ChangeSpec := { name := "recoveryParts", fn := fun _ => fun
  | [d1, d2] => { results := [.lit (.bool true)], args := [d1, d2] }
  | _ => none }
def recoveryPartsRow : OpenClaim := { program := "ytcpckngdfjmbgaagreat", sum := "fdded14b4fd68c82dd171bd2c2f0b05f4a3ab615852fa559b5ba2a72219a9bb5", func := "hydrocascade/hydrocascadelaw33.RecoveryParts", spec := "recoveryParts", inPlace := ["slices.overlaps[hydrocascade/api.Report]"], unfollowed := true, recurses := true, apart := false }
def RecoveryPartsSaid : Prop := recoveryPartsRow.holds Tryz.pinned (OpenSpec.ofChange recoveryPartsSpec)

/-- ITS FALSE NEIGHBOUR: 'it returns false'. Refute it at one input. -/
def recoveryPartsWrong : ChangeSpec := { name := "recoveryParts", fn := fun _ => fun
  | [d1, d2] => { results := [.lit (.bool false)], args := [d1, d2] }
  | _ => none }
def RecoveryPartsWrongFalsely : Prop := recoveryPartsRow.holds Tryz.pinned (OpenSpec.ofChange recoveryPartsWrong)

/- THE SECOND FORM. 'bulk': how many values and letters a reading holds, each counted each time it is reached (what is shared counts as often as it is met; a slice's spare places count too). A statement '..UptoSaid' is the law's where the arguments, and the package variables that the reading takes, are together of bulk at most 1048576: NARROWER than '..Said'. Prove '..Said' where nothing that the law and all that it calls make is longer than what came in: it says more and counts as full. Else prove '..UptoSaid'. A law counts once. -/
mutual
def uptoBulk {H : Type} : DataW H → Nat
  | .lit (.string bytes) => bytes.length + 1
  | .lit _ => 1
  | .nil => 1
  | .ptr d => uptoBulk d + 1
  | .slice elems spare => uptoBulkAll elems + uptoBulkAll spare + 1
  | .agg parts => uptoBulkAll parts + 1
  | .iface _ d => uptoBulk d + 1
  | .map entries => uptoBulkEntries entries + 1
  | .held _ => 1
def uptoBulkAll {H : Type} : List (DataW H) → Nat
  | [] => 0
  | d :: r => uptoBulk d + uptoBulkAll r
def uptoBulkEntries {H : Type} : List (Lit × DataW H) → Nat
  | [] => 0
  | x :: r => uptoBulkEntry x + uptoBulkEntries r
def uptoBulkEntry {H : Type} : Lit × DataW H → Nat
  | (.string bytes, d) => bytes.length + uptoBulk d + 1
  | (_, d) => uptoBulk d + 1
 end
def uptoSmall : (H : Type) → List (DataW H) → Bool := fun _ ds => decide (uptoBulkAll ds ≤ 1048576)
def OpenSpec.upto (s : _root_.Go.ChangeSpec) : _root_.Go.OpenSpec := { _root_.Go.OpenSpec.ofChange s with cond := some uptoSmall }

/-- 'hydrocascadelaw33.RecoveryDoes', WHERE WHAT IT READS IS OF BULK AT MOST 1048576: true; the input reads as it did. -/
def recoveryDoesUptoRow : OpenClaim := { program := "ytcpckngdfjmbgaagreat", sum := "fdded14b4fd68c82dd171bd2c2f0b05f4a3ab615852fa559b5ba2a72219a9bb5", func := "hydrocascade/hydrocascadelaw33.RecoveryDoes", spec := "recoveryDoes", inPlace := ["slices.overlaps[hydrocascade/api.Report]"], unfollowed := true, recurses := true, apart := false, narrowed := true }
def RecoveryDoesUptoSaid : Prop := recoveryDoesUptoRow.holds Tryz.pinned (OpenSpec.upto recoveryDoesSpec)

/-- 'hydrocascadelaw33.RecoveryReplays', WHERE WHAT IT READS IS OF BULK AT MOST 1048576: true; the input reads as it did. -/
def recoveryReplaysUptoRow : OpenClaim := { program := "ytcpckngdfjmbgaagreat", sum := "fdded14b4fd68c82dd171bd2c2f0b05f4a3ab615852fa559b5ba2a72219a9bb5", func := "hydrocascade/hydrocascadelaw33.RecoveryReplays", spec := "recoveryReplays", inPlace := ["slices.overlaps[hydrocascade/api.Report]"], unfollowed := true, recurses := true, apart := false, narrowed := true }
def RecoveryReplaysUptoSaid : Prop := recoveryReplaysUptoRow.holds Tryz.pinned (OpenSpec.upto recoveryReplaysSpec)

/-- 'hydrocascadelaw33.RecoveryCrash', WHERE WHAT IT READS IS OF BULK AT MOST 1048576: true; the input reads as it did. -/
def recoveryCrashUptoRow : OpenClaim := { program := "ytcpckngdfjmbgaagreat", sum := "fdded14b4fd68c82dd171bd2c2f0b05f4a3ab615852fa559b5ba2a72219a9bb5", func := "hydrocascade/hydrocascadelaw33.RecoveryCrash", spec := "recoveryCrash", inPlace := ["slices.overlaps[hydrocascade/api.Report]"], unfollowed := true, recurses := true, apart := false, narrowed := true }
def RecoveryCrashUptoSaid : Prop := recoveryCrashUptoRow.holds Tryz.pinned (OpenSpec.upto recoveryCrashSpec)

/-- 'hydrocascadelaw33.RecoveryParts', WHERE WHAT IT READS IS OF BULK AT MOST 1048576: true; the input reads as it did. -/
def recoveryPartsUptoRow : OpenClaim := { program := "ytcpckngdfjmbgaagreat", sum := "fdded14b4fd68c82dd171bd2c2f0b05f4a3ab615852fa559b5ba2a72219a9bb5", func := "hydrocascade/hydrocascadelaw33.RecoveryParts", spec := "recoveryParts", inPlace := ["slices.overlaps[hydrocascade/api.Report]"], unfollowed := true, recurses := true, apart := false, narrowed := true }
def RecoveryPartsUptoSaid : Prop := recoveryPartsUptoRow.holds Tryz.pinned (OpenSpec.upto recoveryPartsSpec)

end Rows
end Go.Proofs.YtcpckngdfjmbgaaGreat
