/-
  No cell of these rows narrows 'for every input' (looked for: loops, veiled, ifaces, maps, wideKeys, modest, calm, conditions, laid).
  DERIVED. THE GIVEN ROWS OF THIS SEAT. 5 by the template 'for every input the law returns true; each argument reads behind the call as it read before'; 0 by the template 'total and deterministic' (their statements: YtkibkmhmlkfhfaaTotals.lean).
  GIVEN WITH THE SEED: the statements are not yours to turn. If you find one false, say at which input.
  Laid BY PROGRAM, IN A SANDBOX (cutbox-rows.mjs): the forced cells as the released guide's own fill.sh prints them over the translation 023404edfd921cf5… (all of the seat's roots in one cut). By AI agents, Wed Nov 11 2026. No macro, syntax, notation, axiom, sorry.
-/
import Derived.Test.YtkibkmhmlkfhfaaChecked
import GoSem.Claim
import GoSem.ClaimJoined
import GoSem.ClaimMapViews
import Derived.JoinedTies
import Derived.KernelRfl
namespace Go.Proofs.Ytkibkmhmlkfhfaa
/- THE CELL 'sum', in the pinned program and in every row, IS THE sha256 OF THE DUMP (.gsa) THAT YtkibkmhmlkfhfaaProg.lean LOADS. Nothing in Lean hashes anything: it is a label: what it is worth is what the hold of that sum in a sandbox is worth. -/
noncomputable def Try.pinned : Pinned := { name := "ytkibkmhmlkfhfaa", sum := "023404edfd921cf596089cccd0aca4d1ebff6c260cc61f294e9e7b47b2ad1b19", checked := Try.checked }
namespace Rows
def none {H : Type} : Left H := { results := [], args := [] }

/-- 'laws.FnExactRecValid': WHATEVER THE INPUT: true; the input reads as it did. -/
def fnExactRecValidSpec : ChangeSpec := { name := "fnExactRecValid", fn := fun _ => fun
  | [d] => { results := [.lit (.bool true)], args := [d] }
  | _ => none }
def fnExactRecValidRow : OpenClaim := { program := "ytkibkmhmlkfhfaa", sum := "023404edfd921cf596089cccd0aca4d1ebff6c260cc61f294e9e7b47b2ad1b19", func := "loop.example/powercontrol/laws.FnExactRecValid", spec := "fnExactRecValid", apart := false }
def FnExactRecValidSaid : Prop := fnExactRecValidRow.holds Try.pinned (OpenSpec.ofChange fnExactRecValidSpec)

/-- ITS FALSE NEIGHBOUR: 'it returns false'. Refute it at one input. -/
def fnExactRecValidWrong : ChangeSpec := { name := "fnExactRecValid", fn := fun _ => fun
  | [d] => { results := [.lit (.bool false)], args := [d] }
  | _ => none }
def FnExactRecValidWrongFalsely : Prop := fnExactRecValidRow.holds Try.pinned (OpenSpec.ofChange fnExactRecValidWrong)

/-- 'laws.FnExactRecReset': WHATEVER THE INPUT: true; the input reads as it did. -/
def fnExactRecResetSpec : ChangeSpec := { name := "fnExactRecReset", fn := fun _ => fun
  | [d] => { results := [.lit (.bool true)], args := [d] }
  | _ => none }
def fnExactRecResetRow : OpenClaim := { program := "ytkibkmhmlkfhfaa", sum := "023404edfd921cf596089cccd0aca4d1ebff6c260cc61f294e9e7b47b2ad1b19", func := "loop.example/powercontrol/laws.FnExactRecReset", spec := "fnExactRecReset", apart := false }
def FnExactRecResetSaid : Prop := fnExactRecResetRow.holds Try.pinned (OpenSpec.ofChange fnExactRecResetSpec)

/-- ITS FALSE NEIGHBOUR: 'it returns false'. Refute it at one input. -/
def fnExactRecResetWrong : ChangeSpec := { name := "fnExactRecReset", fn := fun _ => fun
  | [d] => { results := [.lit (.bool false)], args := [d] }
  | _ => none }
def FnExactRecResetWrongFalsely : Prop := fnExactRecResetRow.holds Try.pinned (OpenSpec.ofChange fnExactRecResetWrong)

/-- 'laws.FnExactRecTicks': WHATEVER THE INPUT: true; the input reads as it did. -/
def fnExactRecTicksSpec : ChangeSpec := { name := "fnExactRecTicks", fn := fun _ => fun
  | [d] => { results := [.lit (.bool true)], args := [d] }
  | _ => none }
def fnExactRecTicksRow : OpenClaim := { program := "ytkibkmhmlkfhfaa", sum := "023404edfd921cf596089cccd0aca4d1ebff6c260cc61f294e9e7b47b2ad1b19", func := "loop.example/powercontrol/laws.FnExactRecTicks", spec := "fnExactRecTicks", apart := false }
def FnExactRecTicksSaid : Prop := fnExactRecTicksRow.holds Try.pinned (OpenSpec.ofChange fnExactRecTicksSpec)

/-- ITS FALSE NEIGHBOUR: 'it returns false'. Refute it at one input. -/
def fnExactRecTicksWrong : ChangeSpec := { name := "fnExactRecTicks", fn := fun _ => fun
  | [d] => { results := [.lit (.bool false)], args := [d] }
  | _ => none }
def FnExactRecTicksWrongFalsely : Prop := fnExactRecTicksRow.holds Try.pinned (OpenSpec.ofChange fnExactRecTicksWrong)

/-- 'laws.FnExactRecStep': WHATEVER THE INPUT: true; the input reads as it did. -/
def fnExactRecStepSpec : ChangeSpec := { name := "fnExactRecStep", fn := fun _ => fun
  | [d1, d2] => { results := [.lit (.bool true)], args := [d1, d2] }
  | _ => none }
def fnExactRecStepRow : OpenClaim := { program := "ytkibkmhmlkfhfaa", sum := "023404edfd921cf596089cccd0aca4d1ebff6c260cc61f294e9e7b47b2ad1b19", func := "loop.example/powercontrol/laws.FnExactRecStep", spec := "fnExactRecStep", apart := false }
def FnExactRecStepSaid : Prop := fnExactRecStepRow.holds Try.pinned (OpenSpec.ofChange fnExactRecStepSpec)

/-- ITS FALSE NEIGHBOUR: 'it returns false'. Refute it at one input. -/
def fnExactRecStepWrong : ChangeSpec := { name := "fnExactRecStep", fn := fun _ => fun
  | [d1, d2] => { results := [.lit (.bool false)], args := [d1, d2] }
  | _ => none }
def FnExactRecStepWrongFalsely : Prop := fnExactRecStepRow.holds Try.pinned (OpenSpec.ofChange fnExactRecStepWrong)

/-- 'laws.FnExactRecRun': WHATEVER THE INPUT: true; the input reads as it did. -/
def fnExactRecRunSpec : ChangeSpec := { name := "fnExactRecRun", fn := fun _ => fun
  | [d1, d2] => { results := [.lit (.bool true)], args := [d1, d2] }
  | _ => none }
def fnExactRecRunRow : OpenClaim := { program := "ytkibkmhmlkfhfaa", sum := "023404edfd921cf596089cccd0aca4d1ebff6c260cc61f294e9e7b47b2ad1b19", func := "loop.example/powercontrol/laws.FnExactRecRun", spec := "fnExactRecRun", apart := false }
def FnExactRecRunSaid : Prop := fnExactRecRunRow.holds Try.pinned (OpenSpec.ofChange fnExactRecRunSpec)

/-- ITS FALSE NEIGHBOUR: 'it returns false'. Refute it at one input. -/
def fnExactRecRunWrong : ChangeSpec := { name := "fnExactRecRun", fn := fun _ => fun
  | [d1, d2] => { results := [.lit (.bool false)], args := [d1, d2] }
  | _ => none }
def FnExactRecRunWrongFalsely : Prop := fnExactRecRunRow.holds Try.pinned (OpenSpec.ofChange fnExactRecRunWrong)

/- THE SECOND FORM. 'bulk': how many values and letters a reading holds, each counted each time it is reached (what is shared counts as often as it is met; a slice's spare places count too). A statement '..UptoSaid' is the law's where the arguments, and the package variables that the reading takes, are together of bulk at most 1048576: NARROWER than '..Said'. Prove '..Said' where nothing that the law and all that it calls make is longer than what came in: it says more and counts as full. Else prove '..UptoSaid'. A law counts once. -/
mutual
def uptoBulk {H : Type} : DataW H → Nat
  | .lit (.string bytes) => bytes.length + 1
  | .lit _ => 1
  | .nil => 1
  | .ptr d => uptoBulk d + 1
  | .slice elems spare => uptoBulkAll elems + uptoBulkAll spare + 1
  | .agg parts => uptoBulkAll parts + 1
  | .iface _ d => uptoBulk d + 1
  | .map entries => uptoBulkEntries entries + 1
  | .held _ => 1
def uptoBulkAll {H : Type} : List (DataW H) → Nat
  | [] => 0
  | d :: r => uptoBulk d + uptoBulkAll r
def uptoBulkEntries {H : Type} : List (Lit × DataW H) → Nat
  | [] => 0
  | x :: r => uptoBulkEntry x + uptoBulkEntries r
def uptoBulkEntry {H : Type} : Lit × DataW H → Nat
  | (.string bytes, d) => bytes.length + uptoBulk d + 1
  | (_, d) => uptoBulk d + 1
 end
def uptoSmall : (H : Type) → List (DataW H) → Bool := fun _ ds => decide (uptoBulkAll ds ≤ 1048576)
def OpenSpec.upto (s : _root_.Go.ChangeSpec) : _root_.Go.OpenSpec := { _root_.Go.OpenSpec.ofChange s with cond := some uptoSmall }

/-- 'laws.FnExactRecValid', WHERE WHAT IT READS IS OF BULK AT MOST 1048576: true; the input reads as it did. -/
def fnExactRecValidUptoRow : OpenClaim := { program := "ytkibkmhmlkfhfaa", sum := "023404edfd921cf596089cccd0aca4d1ebff6c260cc61f294e9e7b47b2ad1b19", func := "loop.example/powercontrol/laws.FnExactRecValid", spec := "fnExactRecValid", apart := false, narrowed := true }
def FnExactRecValidUptoSaid : Prop := fnExactRecValidUptoRow.holds Try.pinned (OpenSpec.upto fnExactRecValidSpec)

/-- 'laws.FnExactRecReset', WHERE WHAT IT READS IS OF BULK AT MOST 1048576: true; the input reads as it did. -/
def fnExactRecResetUptoRow : OpenClaim := { program := "ytkibkmhmlkfhfaa", sum := "023404edfd921cf596089cccd0aca4d1ebff6c260cc61f294e9e7b47b2ad1b19", func := "loop.example/powercontrol/laws.FnExactRecReset", spec := "fnExactRecReset", apart := false, narrowed := true }
def FnExactRecResetUptoSaid : Prop := fnExactRecResetUptoRow.holds Try.pinned (OpenSpec.upto fnExactRecResetSpec)

/-- 'laws.FnExactRecTicks', WHERE WHAT IT READS IS OF BULK AT MOST 1048576: true; the input reads as it did. -/
def fnExactRecTicksUptoRow : OpenClaim := { program := "ytkibkmhmlkfhfaa", sum := "023404edfd921cf596089cccd0aca4d1ebff6c260cc61f294e9e7b47b2ad1b19", func := "loop.example/powercontrol/laws.FnExactRecTicks", spec := "fnExactRecTicks", apart := false, narrowed := true }
def FnExactRecTicksUptoSaid : Prop := fnExactRecTicksUptoRow.holds Try.pinned (OpenSpec.upto fnExactRecTicksSpec)

/-- 'laws.FnExactRecStep', WHERE WHAT IT READS IS OF BULK AT MOST 1048576: true; the input reads as it did. -/
def fnExactRecStepUptoRow : OpenClaim := { program := "ytkibkmhmlkfhfaa", sum := "023404edfd921cf596089cccd0aca4d1ebff6c260cc61f294e9e7b47b2ad1b19", func := "loop.example/powercontrol/laws.FnExactRecStep", spec := "fnExactRecStep", apart := false, narrowed := true }
def FnExactRecStepUptoSaid : Prop := fnExactRecStepUptoRow.holds Try.pinned (OpenSpec.upto fnExactRecStepSpec)

/-- 'laws.FnExactRecRun', WHERE WHAT IT READS IS OF BULK AT MOST 1048576: true; the input reads as it did. -/
def fnExactRecRunUptoRow : OpenClaim := { program := "ytkibkmhmlkfhfaa", sum := "023404edfd921cf596089cccd0aca4d1ebff6c260cc61f294e9e7b47b2ad1b19", func := "loop.example/powercontrol/laws.FnExactRecRun", spec := "fnExactRecRun", apart := false, narrowed := true }
def FnExactRecRunUptoSaid : Prop := fnExactRecRunUptoRow.holds Try.pinned (OpenSpec.upto fnExactRecRunSpec)

end Rows
end Go.Proofs.Ytkibkmhmlkfhfaa
