/-
  No cell of these rows narrows 'for every input' (looked for: loops, veiled, ifaces, maps, wideKeys, modest, calm, conditions, laid).
  DERIVED. THE GIVEN ROWS OF THIS SEAT. 5 by the template 'for every input the law returns true; each argument reads behind the call as it read before'; 0 by the template 'total and deterministic' (their statements: YtkndokcpnlbipaaTotals.lean).
  GIVEN WITH THE SEED: the statements are not yours to turn. If you find one false, say at which input.
  Laid BY PROGRAM, IN A SANDBOX (cutbox-rows.mjs): the forced cells as the released guide's own fill.sh prints them over the translation a2a1c3ba673555ea… (all of the seat's roots in one cut). By AI agents, Wed Nov 11 2026. No macro, syntax, notation, axiom, sorry.
-/
import Derived.Test.YtkndokcpnlbipaaChecked
import GoSem.Claim
import GoSem.ClaimJoined
import GoSem.ClaimMapViews
import Derived.JoinedTies
import Derived.KernelRfl
namespace Go.Proofs.Ytkndokcpnlbipaa
/- THE CELL 'sum', in the pinned program and in every row, IS THE sha256 OF THE DUMP (.gsa) THAT YtkndokcpnlbipaaProg.lean LOADS. Nothing in Lean hashes anything: it is a label: what it is worth is what the hold of that sum in a sandbox is worth. -/
noncomputable def Try.pinned : Pinned := { name := "ytkndokcpnlbipaa", sum := "a2a1c3ba673555ea72cfb8fd409060fd927aa35513ea4e43e5202a099ca9a5fc", checked := Try.checked }
namespace Rows
def none {H : Type} : Left H := { results := [], args := [] }

/-- 'laws.FnExactBatteryValid': WHATEVER THE INPUT: true; the input reads as it did. -/
def fnExactBatteryValidSpec : ChangeSpec := { name := "fnExactBatteryValid", fn := fun _ => fun
  | [d] => { results := [.lit (.bool true)], args := [d] }
  | _ => none }
def fnExactBatteryValidRow : OpenClaim := { program := "ytkndokcpnlbipaa", sum := "a2a1c3ba673555ea72cfb8fd409060fd927aa35513ea4e43e5202a099ca9a5fc", func := "loop.example/powercontrol/laws.FnExactBatteryValid", spec := "fnExactBatteryValid", apart := false }
def FnExactBatteryValidSaid : Prop := fnExactBatteryValidRow.holds Try.pinned (OpenSpec.ofChange fnExactBatteryValidSpec)

/-- ITS FALSE NEIGHBOUR: 'it returns false'. Refute it at one input. -/
def fnExactBatteryValidWrong : ChangeSpec := { name := "fnExactBatteryValid", fn := fun _ => fun
  | [d] => { results := [.lit (.bool false)], args := [d] }
  | _ => none }
def FnExactBatteryValidWrongFalsely : Prop := fnExactBatteryValidRow.holds Try.pinned (OpenSpec.ofChange fnExactBatteryValidWrong)

/-- 'laws.FnExactGradeOk': WHATEVER THE INPUT: true; the input reads as it did. -/
def fnExactGradeOkSpec : ChangeSpec := { name := "fnExactGradeOk", fn := fun _ => fun
  | [d1, d2, d3, d4, d5] => { results := [.lit (.bool true)], args := [d1, d2, d3, d4, d5] }
  | _ => none }
def fnExactGradeOkRow : OpenClaim := { program := "ytkndokcpnlbipaa", sum := "a2a1c3ba673555ea72cfb8fd409060fd927aa35513ea4e43e5202a099ca9a5fc", func := "loop.example/powercontrol/laws.FnExactGradeOk", spec := "fnExactGradeOk", apart := false }
def FnExactGradeOkSaid : Prop := fnExactGradeOkRow.holds Try.pinned (OpenSpec.ofChange fnExactGradeOkSpec)

/-- ITS FALSE NEIGHBOUR: 'it returns false'. Refute it at one input. -/
def fnExactGradeOkWrong : ChangeSpec := { name := "fnExactGradeOk", fn := fun _ => fun
  | [d1, d2, d3, d4, d5] => { results := [.lit (.bool false)], args := [d1, d2, d3, d4, d5] }
  | _ => none }
def FnExactGradeOkWrongFalsely : Prop := fnExactGradeOkRow.holds Try.pinned (OpenSpec.ofChange fnExactGradeOkWrong)

/-- 'laws.FnExactStoreRun': WHATEVER THE INPUT: true; the input reads as it did. -/
def fnExactStoreRunSpec : ChangeSpec := { name := "fnExactStoreRun", fn := fun _ => fun
  | [d1, d2] => { results := [.lit (.bool true)], args := [d1, d2] }
  | _ => none }
def fnExactStoreRunRow : OpenClaim := { program := "ytkndokcpnlbipaa", sum := "a2a1c3ba673555ea72cfb8fd409060fd927aa35513ea4e43e5202a099ca9a5fc", func := "loop.example/powercontrol/laws.FnExactStoreRun", spec := "fnExactStoreRun", apart := false }
def FnExactStoreRunSaid : Prop := fnExactStoreRunRow.holds Try.pinned (OpenSpec.ofChange fnExactStoreRunSpec)

/-- ITS FALSE NEIGHBOUR: 'it returns false'. Refute it at one input. -/
def fnExactStoreRunWrong : ChangeSpec := { name := "fnExactStoreRun", fn := fun _ => fun
  | [d1, d2] => { results := [.lit (.bool false)], args := [d1, d2] }
  | _ => none }
def FnExactStoreRunWrongFalsely : Prop := fnExactStoreRunRow.holds Try.pinned (OpenSpec.ofChange fnExactStoreRunWrong)

/-- 'laws.FnExactLeastDial': WHATEVER THE INPUT: true; the input reads as it did. -/
def fnExactLeastDialSpec : ChangeSpec := { name := "fnExactLeastDial", fn := fun _ => fun
  | [d1, d2, d3, d4, d5] => { results := [.lit (.bool true)], args := [d1, d2, d3, d4, d5] }
  | _ => none }
def fnExactLeastDialRow : OpenClaim := { program := "ytkndokcpnlbipaa", sum := "a2a1c3ba673555ea72cfb8fd409060fd927aa35513ea4e43e5202a099ca9a5fc", func := "loop.example/powercontrol/laws.FnExactLeastDial", spec := "fnExactLeastDial", apart := false }
def FnExactLeastDialSaid : Prop := fnExactLeastDialRow.holds Try.pinned (OpenSpec.ofChange fnExactLeastDialSpec)

/-- ITS FALSE NEIGHBOUR: 'it returns false'. Refute it at one input. -/
def fnExactLeastDialWrong : ChangeSpec := { name := "fnExactLeastDial", fn := fun _ => fun
  | [d1, d2, d3, d4, d5] => { results := [.lit (.bool false)], args := [d1, d2, d3, d4, d5] }
  | _ => none }
def FnExactLeastDialWrongFalsely : Prop := fnExactLeastDialRow.holds Try.pinned (OpenSpec.ofChange fnExactLeastDialWrong)

/-- 'laws.FnExactGradeChain': WHATEVER THE INPUT: true; the input reads as it did. -/
def fnExactGradeChainSpec : ChangeSpec := { name := "fnExactGradeChain", fn := fun _ => fun
  | [d1, d2, d3, d4, d5] => { results := [.lit (.bool true)], args := [d1, d2, d3, d4, d5] }
  | _ => none }
def fnExactGradeChainRow : OpenClaim := { program := "ytkndokcpnlbipaa", sum := "a2a1c3ba673555ea72cfb8fd409060fd927aa35513ea4e43e5202a099ca9a5fc", func := "loop.example/powercontrol/laws.FnExactGradeChain", spec := "fnExactGradeChain", apart := false }
def FnExactGradeChainSaid : Prop := fnExactGradeChainRow.holds Try.pinned (OpenSpec.ofChange fnExactGradeChainSpec)

/-- ITS FALSE NEIGHBOUR: 'it returns false'. Refute it at one input. -/
def fnExactGradeChainWrong : ChangeSpec := { name := "fnExactGradeChain", fn := fun _ => fun
  | [d1, d2, d3, d4, d5] => { results := [.lit (.bool false)], args := [d1, d2, d3, d4, d5] }
  | _ => none }
def FnExactGradeChainWrongFalsely : Prop := fnExactGradeChainRow.holds Try.pinned (OpenSpec.ofChange fnExactGradeChainWrong)

/- THE SECOND FORM. 'bulk': how many values and letters a reading holds, each counted each time it is reached (what is shared counts as often as it is met; a slice's spare places count too). A statement '..UptoSaid' is the law's where the arguments, and the package variables that the reading takes, are together of bulk at most 1048576: NARROWER than '..Said'. Prove '..Said' where nothing that the law and all that it calls make is longer than what came in: it says more and counts as full. Else prove '..UptoSaid'. A law counts once. -/
mutual
def uptoBulk {H : Type} : DataW H → Nat
  | .lit (.string bytes) => bytes.length + 1
  | .lit _ => 1
  | .nil => 1
  | .ptr d => uptoBulk d + 1
  | .slice elems spare => uptoBulkAll elems + uptoBulkAll spare + 1
  | .agg parts => uptoBulkAll parts + 1
  | .iface _ d => uptoBulk d + 1
  | .map entries => uptoBulkEntries entries + 1
  | .held _ => 1
def uptoBulkAll {H : Type} : List (DataW H) → Nat
  | [] => 0
  | d :: r => uptoBulk d + uptoBulkAll r
def uptoBulkEntries {H : Type} : List (Lit × DataW H) → Nat
  | [] => 0
  | x :: r => uptoBulkEntry x + uptoBulkEntries r
def uptoBulkEntry {H : Type} : Lit × DataW H → Nat
  | (.string bytes, d) => bytes.length + uptoBulk d + 1
  | (_, d) => uptoBulk d + 1
 end
def uptoSmall : (H : Type) → List (DataW H) → Bool := fun _ ds => decide (uptoBulkAll ds ≤ 1048576)
def OpenSpec.upto (s : _root_.Go.ChangeSpec) : _root_.Go.OpenSpec := { _root_.Go.OpenSpec.ofChange s with cond := some uptoSmall }

/-- 'laws.FnExactBatteryValid', WHERE WHAT IT READS IS OF BULK AT MOST 1048576: true; the input reads as it did. -/
def fnExactBatteryValidUptoRow : OpenClaim := { program := "ytkndokcpnlbipaa", sum := "a2a1c3ba673555ea72cfb8fd409060fd927aa35513ea4e43e5202a099ca9a5fc", func := "loop.example/powercontrol/laws.FnExactBatteryValid", spec := "fnExactBatteryValid", apart := false, narrowed := true }
def FnExactBatteryValidUptoSaid : Prop := fnExactBatteryValidUptoRow.holds Try.pinned (OpenSpec.upto fnExactBatteryValidSpec)

/-- 'laws.FnExactGradeOk', WHERE WHAT IT READS IS OF BULK AT MOST 1048576: true; the input reads as it did. -/
def fnExactGradeOkUptoRow : OpenClaim := { program := "ytkndokcpnlbipaa", sum := "a2a1c3ba673555ea72cfb8fd409060fd927aa35513ea4e43e5202a099ca9a5fc", func := "loop.example/powercontrol/laws.FnExactGradeOk", spec := "fnExactGradeOk", apart := false, narrowed := true }
def FnExactGradeOkUptoSaid : Prop := fnExactGradeOkUptoRow.holds Try.pinned (OpenSpec.upto fnExactGradeOkSpec)

/-- 'laws.FnExactStoreRun', WHERE WHAT IT READS IS OF BULK AT MOST 1048576: true; the input reads as it did. -/
def fnExactStoreRunUptoRow : OpenClaim := { program := "ytkndokcpnlbipaa", sum := "a2a1c3ba673555ea72cfb8fd409060fd927aa35513ea4e43e5202a099ca9a5fc", func := "loop.example/powercontrol/laws.FnExactStoreRun", spec := "fnExactStoreRun", apart := false, narrowed := true }
def FnExactStoreRunUptoSaid : Prop := fnExactStoreRunUptoRow.holds Try.pinned (OpenSpec.upto fnExactStoreRunSpec)

/-- 'laws.FnExactLeastDial', WHERE WHAT IT READS IS OF BULK AT MOST 1048576: true; the input reads as it did. -/
def fnExactLeastDialUptoRow : OpenClaim := { program := "ytkndokcpnlbipaa", sum := "a2a1c3ba673555ea72cfb8fd409060fd927aa35513ea4e43e5202a099ca9a5fc", func := "loop.example/powercontrol/laws.FnExactLeastDial", spec := "fnExactLeastDial", apart := false, narrowed := true }
def FnExactLeastDialUptoSaid : Prop := fnExactLeastDialUptoRow.holds Try.pinned (OpenSpec.upto fnExactLeastDialSpec)

/-- 'laws.FnExactGradeChain', WHERE WHAT IT READS IS OF BULK AT MOST 1048576: true; the input reads as it did. -/
def fnExactGradeChainUptoRow : OpenClaim := { program := "ytkndokcpnlbipaa", sum := "a2a1c3ba673555ea72cfb8fd409060fd927aa35513ea4e43e5202a099ca9a5fc", func := "loop.example/powercontrol/laws.FnExactGradeChain", spec := "fnExactGradeChain", apart := false, narrowed := true }
def FnExactGradeChainUptoSaid : Prop := fnExactGradeChainUptoRow.holds Try.pinned (OpenSpec.upto fnExactGradeChainSpec)

end Rows
end Go.Proofs.Ytkndokcpnlbipaa
