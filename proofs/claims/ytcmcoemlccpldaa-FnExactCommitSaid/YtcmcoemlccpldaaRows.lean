/-
  No cell of these rows narrows 'for every input' (looked for: loops, veiled, ifaces, maps, wideKeys, modest, calm, conditions, laid).
  DERIVED. THE GIVEN ROWS OF THIS SEAT. 12 by the template 'for every input the law returns true; each argument reads behind the call as it read before'; 0 by the template 'total and deterministic' (their statements: YtcmcoemlccpldaaTotals.lean).
  GIVEN WITH THE SEED: the statements are not yours to turn. If you find one false, say at which input.
  Laid BY PROGRAM, IN A SANDBOX (cutbox-rows.mjs): the forced cells as the released guide's own fill.sh prints them over the translation e3b82fdccd867da6… (all of the seat's roots in one cut). By AI agents, Wed Nov 11 2026. No macro, syntax, notation, axiom, sorry.
-/
import Derived.Test.YtcmcoemlccpldaaChecked
import GoSem.Claim
import GoSem.ClaimJoined
import GoSem.ClaimMapViews
import Derived.JoinedTies
import Derived.KernelRfl
namespace Go.Proofs.Ytcmcoemlccpldaa
/- THE CELL 'sum', in the pinned program and in every row, IS THE sha256 OF THE DUMP (.gsa) THAT YtcmcoemlccpldaaProg.lean LOADS. Nothing in Lean hashes anything: it is a label: what it is worth is what the hold of that sum in a sandbox is worth. -/
noncomputable def Try.pinned : Pinned := { name := "ytcmcoemlccpldaa", sum := "e3b82fdccd867da63331d368aa564e55cf0e53315839e733f66ee4a2acf4b132", checked := Try.checked }
namespace Rows
def none {H : Type} : Left H := { results := [], args := [] }

/-- 'laws.FnExactUnitsValid': WHATEVER THE INPUT: true; the input reads as it did. -/
def fnExactUnitsValidSpec : ChangeSpec := { name := "fnExactUnitsValid", fn := fun _ => fun
  | [d] => { results := [.lit (.bool true)], args := [d] }
  | _ => none }
def fnExactUnitsValidRow : OpenClaim := { program := "ytcmcoemlccpldaa", sum := "e3b82fdccd867da63331d368aa564e55cf0e53315839e733f66ee4a2acf4b132", func := "loop.example/powercontrol/laws.FnExactUnitsValid", spec := "fnExactUnitsValid", apart := false }
def FnExactUnitsValidSaid : Prop := fnExactUnitsValidRow.holds Try.pinned (OpenSpec.ofChange fnExactUnitsValidSpec)

/-- ITS FALSE NEIGHBOUR: 'it returns false'. Refute it at one input. -/
def fnExactUnitsValidWrong : ChangeSpec := { name := "fnExactUnitsValid", fn := fun _ => fun
  | [d] => { results := [.lit (.bool false)], args := [d] }
  | _ => none }
def FnExactUnitsValidWrongFalsely : Prop := fnExactUnitsValidRow.holds Try.pinned (OpenSpec.ofChange fnExactUnitsValidWrong)

/-- 'laws.FnExactOutputsValid': WHATEVER THE INPUT: true; the input reads as it did. -/
def fnExactOutputsValidSpec : ChangeSpec := { name := "fnExactOutputsValid", fn := fun _ => fun
  | [d1, d2] => { results := [.lit (.bool true)], args := [d1, d2] }
  | _ => none }
def fnExactOutputsValidRow : OpenClaim := { program := "ytcmcoemlccpldaa", sum := "e3b82fdccd867da63331d368aa564e55cf0e53315839e733f66ee4a2acf4b132", func := "loop.example/powercontrol/laws.FnExactOutputsValid", spec := "fnExactOutputsValid", apart := false }
def FnExactOutputsValidSaid : Prop := fnExactOutputsValidRow.holds Try.pinned (OpenSpec.ofChange fnExactOutputsValidSpec)

/-- ITS FALSE NEIGHBOUR: 'it returns false'. Refute it at one input. -/
def fnExactOutputsValidWrong : ChangeSpec := { name := "fnExactOutputsValid", fn := fun _ => fun
  | [d1, d2] => { results := [.lit (.bool false)], args := [d1, d2] }
  | _ => none }
def FnExactOutputsValidWrongFalsely : Prop := fnExactOutputsValidRow.holds Try.pinned (OpenSpec.ofChange fnExactOutputsValidWrong)

/-- 'laws.FnExactOutputCost': WHATEVER THE INPUT: true; the input reads as it did. -/
def fnExactOutputCostSpec : ChangeSpec := { name := "fnExactOutputCost", fn := fun _ => fun
  | [d1, d2] => { results := [.lit (.bool true)], args := [d1, d2] }
  | _ => none }
def fnExactOutputCostRow : OpenClaim := { program := "ytcmcoemlccpldaa", sum := "e3b82fdccd867da63331d368aa564e55cf0e53315839e733f66ee4a2acf4b132", func := "loop.example/powercontrol/laws.FnExactOutputCost", spec := "fnExactOutputCost", apart := false }
def FnExactOutputCostSaid : Prop := fnExactOutputCostRow.holds Try.pinned (OpenSpec.ofChange fnExactOutputCostSpec)

/-- ITS FALSE NEIGHBOUR: 'it returns false'. Refute it at one input. -/
def fnExactOutputCostWrong : ChangeSpec := { name := "fnExactOutputCost", fn := fun _ => fun
  | [d1, d2] => { results := [.lit (.bool false)], args := [d1, d2] }
  | _ => none }
def FnExactOutputCostWrongFalsely : Prop := fnExactOutputCostRow.holds Try.pinned (OpenSpec.ofChange fnExactOutputCostWrong)

/-- 'laws.FnExactRampRange': WHATEVER THE INPUT: true; the input reads as it did. -/
def fnExactRampRangeSpec : ChangeSpec := { name := "fnExactRampRange", fn := fun _ => fun
  | [d1, d2, d3] => { results := [.lit (.bool true)], args := [d1, d2, d3] }
  | _ => none }
def fnExactRampRangeRow : OpenClaim := { program := "ytcmcoemlccpldaa", sum := "e3b82fdccd867da63331d368aa564e55cf0e53315839e733f66ee4a2acf4b132", func := "loop.example/powercontrol/laws.FnExactRampRange", spec := "fnExactRampRange", apart := false }
def FnExactRampRangeSaid : Prop := fnExactRampRangeRow.holds Try.pinned (OpenSpec.ofChange fnExactRampRangeSpec)

/-- ITS FALSE NEIGHBOUR: 'it returns false'. Refute it at one input. -/
def fnExactRampRangeWrong : ChangeSpec := { name := "fnExactRampRange", fn := fun _ => fun
  | [d1, d2, d3] => { results := [.lit (.bool false)], args := [d1, d2, d3] }
  | _ => none }
def FnExactRampRangeWrongFalsely : Prop := fnExactRampRangeRow.holds Try.pinned (OpenSpec.ofChange fnExactRampRangeWrong)

/-- 'laws.FnExactRampUnits': WHATEVER THE INPUT: true; the input reads as it did. -/
def fnExactRampUnitsSpec : ChangeSpec := { name := "fnExactRampUnits", fn := fun _ => fun
  | [d1, d2, d3] => { results := [.lit (.bool true)], args := [d1, d2, d3] }
  | _ => none }
def fnExactRampUnitsRow : OpenClaim := { program := "ytcmcoemlccpldaa", sum := "e3b82fdccd867da63331d368aa564e55cf0e53315839e733f66ee4a2acf4b132", func := "loop.example/powercontrol/laws.FnExactRampUnits", spec := "fnExactRampUnits", apart := false }
def FnExactRampUnitsSaid : Prop := fnExactRampUnitsRow.holds Try.pinned (OpenSpec.ofChange fnExactRampUnitsSpec)

/-- ITS FALSE NEIGHBOUR: 'it returns false'. Refute it at one input. -/
def fnExactRampUnitsWrong : ChangeSpec := { name := "fnExactRampUnits", fn := fun _ => fun
  | [d1, d2, d3] => { results := [.lit (.bool false)], args := [d1, d2, d3] }
  | _ => none }
def FnExactRampUnitsWrongFalsely : Prop := fnExactRampUnitsRow.holds Try.pinned (OpenSpec.ofChange fnExactRampUnitsWrong)

/-- 'laws.FnExactNextCost': WHATEVER THE INPUT: true; the input reads as it did. -/
def fnExactNextCostSpec : ChangeSpec := { name := "fnExactNextCost", fn := fun _ => fun
  | [d1, d2] => { results := [.lit (.bool true)], args := [d1, d2] }
  | _ => none }
def fnExactNextCostRow : OpenClaim := { program := "ytcmcoemlccpldaa", sum := "e3b82fdccd867da63331d368aa564e55cf0e53315839e733f66ee4a2acf4b132", func := "loop.example/powercontrol/laws.FnExactNextCost", spec := "fnExactNextCost", unfollowed := true, recurses := true, apart := false }
def FnExactNextCostSaid : Prop := fnExactNextCostRow.holds Try.pinned (OpenSpec.ofChange fnExactNextCostSpec)

/-- ITS FALSE NEIGHBOUR: 'it returns false'. Refute it at one input. -/
def fnExactNextCostWrong : ChangeSpec := { name := "fnExactNextCost", fn := fun _ => fun
  | [d1, d2] => { results := [.lit (.bool false)], args := [d1, d2] }
  | _ => none }
def FnExactNextCostWrongFalsely : Prop := fnExactNextCostRow.holds Try.pinned (OpenSpec.ofChange fnExactNextCostWrong)

/-- 'laws.FnExactDispatch': WHATEVER THE INPUT: true; the input reads as it did. -/
def fnExactDispatchSpec : ChangeSpec := { name := "fnExactDispatch", fn := fun _ => fun
  | [d1, d2] => { results := [.lit (.bool true)], args := [d1, d2] }
  | _ => none }
def fnExactDispatchRow : OpenClaim := { program := "ytcmcoemlccpldaa", sum := "e3b82fdccd867da63331d368aa564e55cf0e53315839e733f66ee4a2acf4b132", func := "loop.example/powercontrol/laws.FnExactDispatch", spec := "fnExactDispatch", unfollowed := true, recurses := true, apart := false }
def FnExactDispatchSaid : Prop := fnExactDispatchRow.holds Try.pinned (OpenSpec.ofChange fnExactDispatchSpec)

/-- ITS FALSE NEIGHBOUR: 'it returns false'. Refute it at one input. -/
def fnExactDispatchWrong : ChangeSpec := { name := "fnExactDispatch", fn := fun _ => fun
  | [d1, d2] => { results := [.lit (.bool false)], args := [d1, d2] }
  | _ => none }
def FnExactDispatchWrongFalsely : Prop := fnExactDispatchRow.holds Try.pinned (OpenSpec.ofChange fnExactDispatchWrong)

/-- 'laws.FnExactCommitCost': WHATEVER THE INPUT: true; the input reads as it did. -/
def fnExactCommitCostSpec : ChangeSpec := { name := "fnExactCommitCost", fn := fun _ => fun
  | [d1, d2, d3] => { results := [.lit (.bool true)], args := [d1, d2, d3] }
  | _ => none }
def fnExactCommitCostRow : OpenClaim := { program := "ytcmcoemlccpldaa", sum := "e3b82fdccd867da63331d368aa564e55cf0e53315839e733f66ee4a2acf4b132", func := "loop.example/powercontrol/laws.FnExactCommitCost", spec := "fnExactCommitCost", unfollowed := true, recurses := true, apart := false }
def FnExactCommitCostSaid : Prop := fnExactCommitCostRow.holds Try.pinned (OpenSpec.ofChange fnExactCommitCostSpec)

/-- ITS FALSE NEIGHBOUR: 'it returns false'. Refute it at one input. -/
def fnExactCommitCostWrong : ChangeSpec := { name := "fnExactCommitCost", fn := fun _ => fun
  | [d1, d2, d3] => { results := [.lit (.bool false)], args := [d1, d2, d3] }
  | _ => none }
def FnExactCommitCostWrongFalsely : Prop := fnExactCommitCostRow.holds Try.pinned (OpenSpec.ofChange fnExactCommitCostWrong)

/-- 'laws.FnExactSpareOf': WHATEVER THE INPUT: true; the input reads as it did. -/
def fnExactSpareOfSpec : ChangeSpec := { name := "fnExactSpareOf", fn := fun _ => fun
  | [d1, d2, d3] => { results := [.lit (.bool true)], args := [d1, d2, d3] }
  | _ => none }
def fnExactSpareOfRow : OpenClaim := { program := "ytcmcoemlccpldaa", sum := "e3b82fdccd867da63331d368aa564e55cf0e53315839e733f66ee4a2acf4b132", func := "loop.example/powercontrol/laws.FnExactSpareOf", spec := "fnExactSpareOf", unfollowed := true, recurses := true, apart := false }
def FnExactSpareOfSaid : Prop := fnExactSpareOfRow.holds Try.pinned (OpenSpec.ofChange fnExactSpareOfSpec)

/-- ITS FALSE NEIGHBOUR: 'it returns false'. Refute it at one input. -/
def fnExactSpareOfWrong : ChangeSpec := { name := "fnExactSpareOf", fn := fun _ => fun
  | [d1, d2, d3] => { results := [.lit (.bool false)], args := [d1, d2, d3] }
  | _ => none }
def FnExactSpareOfWrongFalsely : Prop := fnExactSpareOfRow.holds Try.pinned (OpenSpec.ofChange fnExactSpareOfWrong)

/-- 'laws.FnExactRampNext': WHATEVER THE INPUT: true; the input reads as it did. -/
def fnExactRampNextSpec : ChangeSpec := { name := "fnExactRampNext", fn := fun _ => fun
  | [d1, d2, d3, d4] => { results := [.lit (.bool true)], args := [d1, d2, d3, d4] }
  | _ => none }
def fnExactRampNextRow : OpenClaim := { program := "ytcmcoemlccpldaa", sum := "e3b82fdccd867da63331d368aa564e55cf0e53315839e733f66ee4a2acf4b132", func := "loop.example/powercontrol/laws.FnExactRampNext", spec := "fnExactRampNext", unfollowed := true, recurses := true, apart := false }
def FnExactRampNextSaid : Prop := fnExactRampNextRow.holds Try.pinned (OpenSpec.ofChange fnExactRampNextSpec)

/-- ITS FALSE NEIGHBOUR: 'it returns false'. Refute it at one input. -/
def fnExactRampNextWrong : ChangeSpec := { name := "fnExactRampNext", fn := fun _ => fun
  | [d1, d2, d3, d4] => { results := [.lit (.bool false)], args := [d1, d2, d3, d4] }
  | _ => none }
def FnExactRampNextWrongFalsely : Prop := fnExactRampNextRow.holds Try.pinned (OpenSpec.ofChange fnExactRampNextWrong)

/-- 'laws.FnExactRampRun': WHATEVER THE INPUT: true; the input reads as it did. -/
def fnExactRampRunSpec : ChangeSpec := { name := "fnExactRampRun", fn := fun _ => fun
  | [d1, d2, d3, d4] => { results := [.lit (.bool true)], args := [d1, d2, d3, d4] }
  | _ => none }
def fnExactRampRunRow : OpenClaim := { program := "ytcmcoemlccpldaa", sum := "e3b82fdccd867da63331d368aa564e55cf0e53315839e733f66ee4a2acf4b132", func := "loop.example/powercontrol/laws.FnExactRampRun", spec := "fnExactRampRun", unfollowed := true, recurses := true, apart := false }
def FnExactRampRunSaid : Prop := fnExactRampRunRow.holds Try.pinned (OpenSpec.ofChange fnExactRampRunSpec)

/-- ITS FALSE NEIGHBOUR: 'it returns false'. Refute it at one input. -/
def fnExactRampRunWrong : ChangeSpec := { name := "fnExactRampRun", fn := fun _ => fun
  | [d1, d2, d3, d4] => { results := [.lit (.bool false)], args := [d1, d2, d3, d4] }
  | _ => none }
def FnExactRampRunWrongFalsely : Prop := fnExactRampRunRow.holds Try.pinned (OpenSpec.ofChange fnExactRampRunWrong)

/-- 'laws.FnExactCommit': WHATEVER THE INPUT: true; the input reads as it did. -/
def fnExactCommitSpec : ChangeSpec := { name := "fnExactCommit", fn := fun _ => fun
  | [d1, d2, d3] => { results := [.lit (.bool true)], args := [d1, d2, d3] }
  | _ => none }
def fnExactCommitRow : OpenClaim := { program := "ytcmcoemlccpldaa", sum := "e3b82fdccd867da63331d368aa564e55cf0e53315839e733f66ee4a2acf4b132", func := "loop.example/powercontrol/laws.FnExactCommit", spec := "fnExactCommit", unfollowed := true, recurses := true, apart := false }
def FnExactCommitSaid : Prop := fnExactCommitRow.holds Try.pinned (OpenSpec.ofChange fnExactCommitSpec)

/-- ITS FALSE NEIGHBOUR: 'it returns false'. Refute it at one input. -/
def fnExactCommitWrong : ChangeSpec := { name := "fnExactCommit", fn := fun _ => fun
  | [d1, d2, d3] => { results := [.lit (.bool false)], args := [d1, d2, d3] }
  | _ => none }
def FnExactCommitWrongFalsely : Prop := fnExactCommitRow.holds Try.pinned (OpenSpec.ofChange fnExactCommitWrong)

/- THE SECOND FORM. 'bulk': how many values and letters a reading holds, each counted each time it is reached (what is shared counts as often as it is met; a slice's spare places count too). A statement '..UptoSaid' is the law's where the arguments, and the package variables that the reading takes, are together of bulk at most 1048576: NARROWER than '..Said'. Prove '..Said' where nothing that the law and all that it calls make is longer than what came in: it says more and counts as full. Else prove '..UptoSaid'. A law counts once. -/
mutual
def uptoBulk {H : Type} : DataW H → Nat
  | .lit (.string bytes) => bytes.length + 1
  | .lit _ => 1
  | .nil => 1
  | .ptr d => uptoBulk d + 1
  | .slice elems spare => uptoBulkAll elems + uptoBulkAll spare + 1
  | .agg parts => uptoBulkAll parts + 1
  | .iface _ d => uptoBulk d + 1
  | .map entries => uptoBulkEntries entries + 1
  | .held _ => 1
def uptoBulkAll {H : Type} : List (DataW H) → Nat
  | [] => 0
  | d :: r => uptoBulk d + uptoBulkAll r
def uptoBulkEntries {H : Type} : List (Lit × DataW H) → Nat
  | [] => 0
  | x :: r => uptoBulkEntry x + uptoBulkEntries r
def uptoBulkEntry {H : Type} : Lit × DataW H → Nat
  | (.string bytes, d) => bytes.length + uptoBulk d + 1
  | (_, d) => uptoBulk d + 1
 end
def uptoSmall : (H : Type) → List (DataW H) → Bool := fun _ ds => decide (uptoBulkAll ds ≤ 1048576)
def OpenSpec.upto (s : _root_.Go.ChangeSpec) : _root_.Go.OpenSpec := { _root_.Go.OpenSpec.ofChange s with cond := some uptoSmall }

/-- 'laws.FnExactUnitsValid', WHERE WHAT IT READS IS OF BULK AT MOST 1048576: true; the input reads as it did. -/
def fnExactUnitsValidUptoRow : OpenClaim := { program := "ytcmcoemlccpldaa", sum := "e3b82fdccd867da63331d368aa564e55cf0e53315839e733f66ee4a2acf4b132", func := "loop.example/powercontrol/laws.FnExactUnitsValid", spec := "fnExactUnitsValid", apart := false, narrowed := true }
def FnExactUnitsValidUptoSaid : Prop := fnExactUnitsValidUptoRow.holds Try.pinned (OpenSpec.upto fnExactUnitsValidSpec)

/-- 'laws.FnExactOutputsValid', WHERE WHAT IT READS IS OF BULK AT MOST 1048576: true; the input reads as it did. -/
def fnExactOutputsValidUptoRow : OpenClaim := { program := "ytcmcoemlccpldaa", sum := "e3b82fdccd867da63331d368aa564e55cf0e53315839e733f66ee4a2acf4b132", func := "loop.example/powercontrol/laws.FnExactOutputsValid", spec := "fnExactOutputsValid", apart := false, narrowed := true }
def FnExactOutputsValidUptoSaid : Prop := fnExactOutputsValidUptoRow.holds Try.pinned (OpenSpec.upto fnExactOutputsValidSpec)

/-- 'laws.FnExactOutputCost', WHERE WHAT IT READS IS OF BULK AT MOST 1048576: true; the input reads as it did. -/
def fnExactOutputCostUptoRow : OpenClaim := { program := "ytcmcoemlccpldaa", sum := "e3b82fdccd867da63331d368aa564e55cf0e53315839e733f66ee4a2acf4b132", func := "loop.example/powercontrol/laws.FnExactOutputCost", spec := "fnExactOutputCost", apart := false, narrowed := true }
def FnExactOutputCostUptoSaid : Prop := fnExactOutputCostUptoRow.holds Try.pinned (OpenSpec.upto fnExactOutputCostSpec)

/-- 'laws.FnExactRampRange', WHERE WHAT IT READS IS OF BULK AT MOST 1048576: true; the input reads as it did. -/
def fnExactRampRangeUptoRow : OpenClaim := { program := "ytcmcoemlccpldaa", sum := "e3b82fdccd867da63331d368aa564e55cf0e53315839e733f66ee4a2acf4b132", func := "loop.example/powercontrol/laws.FnExactRampRange", spec := "fnExactRampRange", apart := false, narrowed := true }
def FnExactRampRangeUptoSaid : Prop := fnExactRampRangeUptoRow.holds Try.pinned (OpenSpec.upto fnExactRampRangeSpec)

/-- 'laws.FnExactRampUnits', WHERE WHAT IT READS IS OF BULK AT MOST 1048576: true; the input reads as it did. -/
def fnExactRampUnitsUptoRow : OpenClaim := { program := "ytcmcoemlccpldaa", sum := "e3b82fdccd867da63331d368aa564e55cf0e53315839e733f66ee4a2acf4b132", func := "loop.example/powercontrol/laws.FnExactRampUnits", spec := "fnExactRampUnits", apart := false, narrowed := true }
def FnExactRampUnitsUptoSaid : Prop := fnExactRampUnitsUptoRow.holds Try.pinned (OpenSpec.upto fnExactRampUnitsSpec)

/-- 'laws.FnExactNextCost', WHERE WHAT IT READS IS OF BULK AT MOST 1048576: true; the input reads as it did. -/
def fnExactNextCostUptoRow : OpenClaim := { program := "ytcmcoemlccpldaa", sum := "e3b82fdccd867da63331d368aa564e55cf0e53315839e733f66ee4a2acf4b132", func := "loop.example/powercontrol/laws.FnExactNextCost", spec := "fnExactNextCost", unfollowed := true, recurses := true, apart := false, narrowed := true }
def FnExactNextCostUptoSaid : Prop := fnExactNextCostUptoRow.holds Try.pinned (OpenSpec.upto fnExactNextCostSpec)

/-- 'laws.FnExactDispatch', WHERE WHAT IT READS IS OF BULK AT MOST 1048576: true; the input reads as it did. -/
def fnExactDispatchUptoRow : OpenClaim := { program := "ytcmcoemlccpldaa", sum := "e3b82fdccd867da63331d368aa564e55cf0e53315839e733f66ee4a2acf4b132", func := "loop.example/powercontrol/laws.FnExactDispatch", spec := "fnExactDispatch", unfollowed := true, recurses := true, apart := false, narrowed := true }
def FnExactDispatchUptoSaid : Prop := fnExactDispatchUptoRow.holds Try.pinned (OpenSpec.upto fnExactDispatchSpec)

/-- 'laws.FnExactCommitCost', WHERE WHAT IT READS IS OF BULK AT MOST 1048576: true; the input reads as it did. -/
def fnExactCommitCostUptoRow : OpenClaim := { program := "ytcmcoemlccpldaa", sum := "e3b82fdccd867da63331d368aa564e55cf0e53315839e733f66ee4a2acf4b132", func := "loop.example/powercontrol/laws.FnExactCommitCost", spec := "fnExactCommitCost", unfollowed := true, recurses := true, apart := false, narrowed := true }
def FnExactCommitCostUptoSaid : Prop := fnExactCommitCostUptoRow.holds Try.pinned (OpenSpec.upto fnExactCommitCostSpec)

/-- 'laws.FnExactSpareOf', WHERE WHAT IT READS IS OF BULK AT MOST 1048576: true; the input reads as it did. -/
def fnExactSpareOfUptoRow : OpenClaim := { program := "ytcmcoemlccpldaa", sum := "e3b82fdccd867da63331d368aa564e55cf0e53315839e733f66ee4a2acf4b132", func := "loop.example/powercontrol/laws.FnExactSpareOf", spec := "fnExactSpareOf", unfollowed := true, recurses := true, apart := false, narrowed := true }
def FnExactSpareOfUptoSaid : Prop := fnExactSpareOfUptoRow.holds Try.pinned (OpenSpec.upto fnExactSpareOfSpec)

/-- 'laws.FnExactRampNext', WHERE WHAT IT READS IS OF BULK AT MOST 1048576: true; the input reads as it did. -/
def fnExactRampNextUptoRow : OpenClaim := { program := "ytcmcoemlccpldaa", sum := "e3b82fdccd867da63331d368aa564e55cf0e53315839e733f66ee4a2acf4b132", func := "loop.example/powercontrol/laws.FnExactRampNext", spec := "fnExactRampNext", unfollowed := true, recurses := true, apart := false, narrowed := true }
def FnExactRampNextUptoSaid : Prop := fnExactRampNextUptoRow.holds Try.pinned (OpenSpec.upto fnExactRampNextSpec)

/-- 'laws.FnExactRampRun', WHERE WHAT IT READS IS OF BULK AT MOST 1048576: true; the input reads as it did. -/
def fnExactRampRunUptoRow : OpenClaim := { program := "ytcmcoemlccpldaa", sum := "e3b82fdccd867da63331d368aa564e55cf0e53315839e733f66ee4a2acf4b132", func := "loop.example/powercontrol/laws.FnExactRampRun", spec := "fnExactRampRun", unfollowed := true, recurses := true, apart := false, narrowed := true }
def FnExactRampRunUptoSaid : Prop := fnExactRampRunUptoRow.holds Try.pinned (OpenSpec.upto fnExactRampRunSpec)

/-- 'laws.FnExactCommit', WHERE WHAT IT READS IS OF BULK AT MOST 1048576: true; the input reads as it did. -/
def fnExactCommitUptoRow : OpenClaim := { program := "ytcmcoemlccpldaa", sum := "e3b82fdccd867da63331d368aa564e55cf0e53315839e733f66ee4a2acf4b132", func := "loop.example/powercontrol/laws.FnExactCommit", spec := "fnExactCommit", unfollowed := true, recurses := true, apart := false, narrowed := true }
def FnExactCommitUptoSaid : Prop := fnExactCommitUptoRow.holds Try.pinned (OpenSpec.upto fnExactCommitSpec)

end Rows
end Go.Proofs.Ytcmcoemlccpldaa
