/-
  No cell of these rows narrows 'for every input' (looked for: loops, veiled, ifaces, maps, wideKeys, modest, calm, conditions, laid).
  DERIVED. THE GIVEN ROWS OF THIS SEAT. 5 by the template 'for every input the law returns true; each argument reads behind the call as it read before'; 0 by the template 'total and deterministic' (their statements: YtdfgdeccejcpfaaTotals.lean).
  GIVEN WITH THE SEED: the statements are not yours to turn. If you find one false, say at which input.
  Laid BY PROGRAM, IN A SANDBOX (cutbox-rows.mjs): the forced cells as the released guide's own fill.sh prints them over the translation 59549be830e9ab68… (all of the seat's roots in one cut). By AI agents, Wed Nov 11 2026. No macro, syntax, notation, axiom, sorry.
-/
import Derived.Test.YtdfgdeccejcpfaaChecked
import GoSem.Claim
import GoSem.ClaimJoined
import GoSem.ClaimMapViews
import Derived.JoinedTies
import Derived.KernelRfl
namespace Go.Proofs.Ytdfgdeccejcpfaa
/- THE CELL 'sum', in the pinned program and in every row, IS THE sha256 OF THE DUMP (.gsa) THAT YtdfgdeccejcpfaaProg.lean LOADS. Nothing in Lean hashes anything: it is a label: what it is worth is what the hold of that sum in a sandbox is worth. -/
noncomputable def Try.pinned : Pinned := { name := "ytdfgdeccejcpfaa", sum := "59549be830e9ab6897cdebd8183c316a93628ba4baa582b5212ae5cb4a7226cc", checked := Try.checked }
namespace Rows
def none {H : Type} : Left H := { results := [], args := [] }

/-- 'laws.FnExactZoneValid': WHATEVER THE INPUT: true; the input reads as it did. -/
def fnExactZoneValidSpec : ChangeSpec := { name := "fnExactZoneValid", fn := fun _ => fun
  | [d1, d2] => { results := [.lit (.bool true)], args := [d1, d2] }
  | _ => none }
def fnExactZoneValidRow : OpenClaim := { program := "ytdfgdeccejcpfaa", sum := "59549be830e9ab6897cdebd8183c316a93628ba4baa582b5212ae5cb4a7226cc", func := "loop.example/powercontrol/laws.FnExactZoneValid", spec := "fnExactZoneValid", apart := false }
def FnExactZoneValidSaid : Prop := fnExactZoneValidRow.holds Try.pinned (OpenSpec.ofChange fnExactZoneValidSpec)

/-- ITS FALSE NEIGHBOUR: 'it returns false'. Refute it at one input. -/
def fnExactZoneValidWrong : ChangeSpec := { name := "fnExactZoneValid", fn := fun _ => fun
  | [d1, d2] => { results := [.lit (.bool false)], args := [d1, d2] }
  | _ => none }
def FnExactZoneValidWrongFalsely : Prop := fnExactZoneValidRow.holds Try.pinned (OpenSpec.ofChange fnExactZoneValidWrong)

/-- 'laws.FnExactZoneLoad': WHATEVER THE INPUT: true; the input reads as it did. -/
def fnExactZoneLoadSpec : ChangeSpec := { name := "fnExactZoneLoad", fn := fun _ => fun
  | [d1, d2, d3, d4] => { results := [.lit (.bool true)], args := [d1, d2, d3, d4] }
  | _ => none }
def fnExactZoneLoadRow : OpenClaim := { program := "ytdfgdeccejcpfaa", sum := "59549be830e9ab6897cdebd8183c316a93628ba4baa582b5212ae5cb4a7226cc", func := "loop.example/powercontrol/laws.FnExactZoneLoad", spec := "fnExactZoneLoad", apart := false }
def FnExactZoneLoadSaid : Prop := fnExactZoneLoadRow.holds Try.pinned (OpenSpec.ofChange fnExactZoneLoadSpec)

/-- ITS FALSE NEIGHBOUR: 'it returns false'. Refute it at one input. -/
def fnExactZoneLoadWrong : ChangeSpec := { name := "fnExactZoneLoad", fn := fun _ => fun
  | [d1, d2, d3, d4] => { results := [.lit (.bool false)], args := [d1, d2, d3, d4] }
  | _ => none }
def FnExactZoneLoadWrongFalsely : Prop := fnExactZoneLoadRow.holds Try.pinned (OpenSpec.ofChange fnExactZoneLoadWrong)

/-- 'laws.FnExactZoneFlow': WHATEVER THE INPUT: true; the input reads as it did. -/
def fnExactZoneFlowSpec : ChangeSpec := { name := "fnExactZoneFlow", fn := fun _ => fun
  | [d1, d2, d3, d4] => { results := [.lit (.bool true)], args := [d1, d2, d3, d4] }
  | _ => none }
def fnExactZoneFlowRow : OpenClaim := { program := "ytdfgdeccejcpfaa", sum := "59549be830e9ab6897cdebd8183c316a93628ba4baa582b5212ae5cb4a7226cc", func := "loop.example/powercontrol/laws.FnExactZoneFlow", spec := "fnExactZoneFlow", apart := false }
def FnExactZoneFlowSaid : Prop := fnExactZoneFlowRow.holds Try.pinned (OpenSpec.ofChange fnExactZoneFlowSpec)

/-- ITS FALSE NEIGHBOUR: 'it returns false'. Refute it at one input. -/
def fnExactZoneFlowWrong : ChangeSpec := { name := "fnExactZoneFlow", fn := fun _ => fun
  | [d1, d2, d3, d4] => { results := [.lit (.bool false)], args := [d1, d2, d3, d4] }
  | _ => none }
def FnExactZoneFlowWrongFalsely : Prop := fnExactZoneFlowRow.holds Try.pinned (OpenSpec.ofChange fnExactZoneFlowWrong)

/-- 'laws.FnExactZoneDiff': WHATEVER THE INPUT: true; the input reads as it did. -/
def fnExactZoneDiffSpec : ChangeSpec := { name := "fnExactZoneDiff", fn := fun _ => fun
  | [d1, d2, d3, d4, d5] => { results := [.lit (.bool true)], args := [d1, d2, d3, d4, d5] }
  | _ => none }
def fnExactZoneDiffRow : OpenClaim := { program := "ytdfgdeccejcpfaa", sum := "59549be830e9ab6897cdebd8183c316a93628ba4baa582b5212ae5cb4a7226cc", func := "loop.example/powercontrol/laws.FnExactZoneDiff", spec := "fnExactZoneDiff", apart := false }
def FnExactZoneDiffSaid : Prop := fnExactZoneDiffRow.holds Try.pinned (OpenSpec.ofChange fnExactZoneDiffSpec)

/-- ITS FALSE NEIGHBOUR: 'it returns false'. Refute it at one input. -/
def fnExactZoneDiffWrong : ChangeSpec := { name := "fnExactZoneDiff", fn := fun _ => fun
  | [d1, d2, d3, d4, d5] => { results := [.lit (.bool false)], args := [d1, d2, d3, d4, d5] }
  | _ => none }
def FnExactZoneDiffWrongFalsely : Prop := fnExactZoneDiffRow.holds Try.pinned (OpenSpec.ofChange fnExactZoneDiffWrong)

/-- 'laws.FnExactZoneTrips': WHATEVER THE INPUT: true; the input reads as it did. -/
def fnExactZoneTripsSpec : ChangeSpec := { name := "fnExactZoneTrips", fn := fun _ => fun
  | [d1, d2, d3, d4, d5, d6] => { results := [.lit (.bool true)], args := [d1, d2, d3, d4, d5, d6] }
  | _ => none }
def fnExactZoneTripsRow : OpenClaim := { program := "ytdfgdeccejcpfaa", sum := "59549be830e9ab6897cdebd8183c316a93628ba4baa582b5212ae5cb4a7226cc", func := "loop.example/powercontrol/laws.FnExactZoneTrips", spec := "fnExactZoneTrips", apart := false }
def FnExactZoneTripsSaid : Prop := fnExactZoneTripsRow.holds Try.pinned (OpenSpec.ofChange fnExactZoneTripsSpec)

/-- ITS FALSE NEIGHBOUR: 'it returns false'. Refute it at one input. -/
def fnExactZoneTripsWrong : ChangeSpec := { name := "fnExactZoneTrips", fn := fun _ => fun
  | [d1, d2, d3, d4, d5, d6] => { results := [.lit (.bool false)], args := [d1, d2, d3, d4, d5, d6] }
  | _ => none }
def FnExactZoneTripsWrongFalsely : Prop := fnExactZoneTripsRow.holds Try.pinned (OpenSpec.ofChange fnExactZoneTripsWrong)

/- THE SECOND FORM. 'bulk': how many values and letters a reading holds, each counted each time it is reached (what is shared counts as often as it is met; a slice's spare places count too). A statement '..UptoSaid' is the law's where the arguments, and the package variables that the reading takes, are together of bulk at most 1048576: NARROWER than '..Said'. Prove '..Said' where nothing that the law and all that it calls make is longer than what came in: it says more and counts as full. Else prove '..UptoSaid'. A law counts once. -/
mutual
def uptoBulk {H : Type} : DataW H → Nat
  | .lit (.string bytes) => bytes.length + 1
  | .lit _ => 1
  | .nil => 1
  | .ptr d => uptoBulk d + 1
  | .slice elems spare => uptoBulkAll elems + uptoBulkAll spare + 1
  | .agg parts => uptoBulkAll parts + 1
  | .iface _ d => uptoBulk d + 1
  | .map entries => uptoBulkEntries entries + 1
  | .held _ => 1
def uptoBulkAll {H : Type} : List (DataW H) → Nat
  | [] => 0
  | d :: r => uptoBulk d + uptoBulkAll r
def uptoBulkEntries {H : Type} : List (Lit × DataW H) → Nat
  | [] => 0
  | x :: r => uptoBulkEntry x + uptoBulkEntries r
def uptoBulkEntry {H : Type} : Lit × DataW H → Nat
  | (.string bytes, d) => bytes.length + uptoBulk d + 1
  | (_, d) => uptoBulk d + 1
 end
def uptoSmall : (H : Type) → List (DataW H) → Bool := fun _ ds => decide (uptoBulkAll ds ≤ 1048576)
def OpenSpec.upto (s : _root_.Go.ChangeSpec) : _root_.Go.OpenSpec := { _root_.Go.OpenSpec.ofChange s with cond := some uptoSmall }

/-- 'laws.FnExactZoneValid', WHERE WHAT IT READS IS OF BULK AT MOST 1048576: true; the input reads as it did. -/
def fnExactZoneValidUptoRow : OpenClaim := { program := "ytdfgdeccejcpfaa", sum := "59549be830e9ab6897cdebd8183c316a93628ba4baa582b5212ae5cb4a7226cc", func := "loop.example/powercontrol/laws.FnExactZoneValid", spec := "fnExactZoneValid", apart := false, narrowed := true }
def FnExactZoneValidUptoSaid : Prop := fnExactZoneValidUptoRow.holds Try.pinned (OpenSpec.upto fnExactZoneValidSpec)

/-- 'laws.FnExactZoneLoad', WHERE WHAT IT READS IS OF BULK AT MOST 1048576: true; the input reads as it did. -/
def fnExactZoneLoadUptoRow : OpenClaim := { program := "ytdfgdeccejcpfaa", sum := "59549be830e9ab6897cdebd8183c316a93628ba4baa582b5212ae5cb4a7226cc", func := "loop.example/powercontrol/laws.FnExactZoneLoad", spec := "fnExactZoneLoad", apart := false, narrowed := true }
def FnExactZoneLoadUptoSaid : Prop := fnExactZoneLoadUptoRow.holds Try.pinned (OpenSpec.upto fnExactZoneLoadSpec)

/-- 'laws.FnExactZoneFlow', WHERE WHAT IT READS IS OF BULK AT MOST 1048576: true; the input reads as it did. -/
def fnExactZoneFlowUptoRow : OpenClaim := { program := "ytdfgdeccejcpfaa", sum := "59549be830e9ab6897cdebd8183c316a93628ba4baa582b5212ae5cb4a7226cc", func := "loop.example/powercontrol/laws.FnExactZoneFlow", spec := "fnExactZoneFlow", apart := false, narrowed := true }
def FnExactZoneFlowUptoSaid : Prop := fnExactZoneFlowUptoRow.holds Try.pinned (OpenSpec.upto fnExactZoneFlowSpec)

/-- 'laws.FnExactZoneDiff', WHERE WHAT IT READS IS OF BULK AT MOST 1048576: true; the input reads as it did. -/
def fnExactZoneDiffUptoRow : OpenClaim := { program := "ytdfgdeccejcpfaa", sum := "59549be830e9ab6897cdebd8183c316a93628ba4baa582b5212ae5cb4a7226cc", func := "loop.example/powercontrol/laws.FnExactZoneDiff", spec := "fnExactZoneDiff", apart := false, narrowed := true }
def FnExactZoneDiffUptoSaid : Prop := fnExactZoneDiffUptoRow.holds Try.pinned (OpenSpec.upto fnExactZoneDiffSpec)

/-- 'laws.FnExactZoneTrips', WHERE WHAT IT READS IS OF BULK AT MOST 1048576: true; the input reads as it did. -/
def fnExactZoneTripsUptoRow : OpenClaim := { program := "ytdfgdeccejcpfaa", sum := "59549be830e9ab6897cdebd8183c316a93628ba4baa582b5212ae5cb4a7226cc", func := "loop.example/powercontrol/laws.FnExactZoneTrips", spec := "fnExactZoneTrips", apart := false, narrowed := true }
def FnExactZoneTripsUptoSaid : Prop := fnExactZoneTripsUptoRow.holds Try.pinned (OpenSpec.upto fnExactZoneTripsSpec)

end Rows
end Go.Proofs.Ytdfgdeccejcpfaa
