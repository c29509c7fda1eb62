/-
  No cell of these rows narrows 'for every input' (looked for: loops, veiled, ifaces, maps, wideKeys, modest, calm, conditions, laid).
  DERIVED. THE GIVEN ROWS OF THIS SEAT. 3 by the template 'for every input the law returns true; each argument reads behind the call as it read before'; 0 by the template 'total and deterministic' (their statements: YtecekhjlapaofaaTotals.lean).
  GIVEN WITH THE SEED: the statements are not yours to turn. If you find one false, say at which input.
  Laid BY PROGRAM, IN A SANDBOX (cutbox-rows.mjs): the forced cells as the released guide's own fill.sh prints them over the translation 41752b7c10bbce15… (all of the seat's roots in one cut). By AI agents, Wed Nov 11 2026. No macro, syntax, notation, axiom, sorry.
-/
import Derived.Test.YtecekhjlapaofaaChecked
import GoSem.Claim
import GoSem.ClaimJoined
import GoSem.ClaimMapViews
import Derived.JoinedTies
import Derived.KernelRfl
namespace Go.Proofs.Ytecekhjlapaofaa
/- THE CELL 'sum', in the pinned program and in every row, IS THE sha256 OF THE DUMP (.gsa) THAT YtecekhjlapaofaaProg.lean LOADS. Nothing in Lean hashes anything: it is a label: what it is worth is what the hold of that sum in a sandbox is worth. -/
noncomputable def Try.pinned : Pinned := { name := "ytecekhjlapaofaa", sum := "41752b7c10bbce15fe919edb59161339ed60d2ab2470f3fe792197a7e35ce6ac", checked := Try.checked }
namespace Rows
def none {H : Type} : Left H := { results := [], args := [] }

/-- 'laws.FnExactBlocksValid': WHATEVER THE INPUT: true; the input reads as it did. -/
def fnExactBlocksValidSpec : ChangeSpec := { name := "fnExactBlocksValid", fn := fun _ => fun
  | [d] => { results := [.lit (.bool true)], args := [d] }
  | _ => none }
def fnExactBlocksValidRow : OpenClaim := { program := "ytecekhjlapaofaa", sum := "41752b7c10bbce15fe919edb59161339ed60d2ab2470f3fe792197a7e35ce6ac", func := "loop.example/powercontrol/laws.FnExactBlocksValid", spec := "fnExactBlocksValid", apart := false }
def FnExactBlocksValidSaid : Prop := fnExactBlocksValidRow.holds Try.pinned (OpenSpec.ofChange fnExactBlocksValidSpec)

/-- ITS FALSE NEIGHBOUR: 'it returns false'. Refute it at one input. -/
def fnExactBlocksValidWrong : ChangeSpec := { name := "fnExactBlocksValid", fn := fun _ => fun
  | [d] => { results := [.lit (.bool false)], args := [d] }
  | _ => none }
def FnExactBlocksValidWrongFalsely : Prop := fnExactBlocksValidRow.holds Try.pinned (OpenSpec.ofChange fnExactBlocksValidWrong)

/-- 'laws.FnExactShedSum': WHATEVER THE INPUT: true; the input reads as it did. -/
def fnExactShedSumSpec : ChangeSpec := { name := "fnExactShedSum", fn := fun _ => fun
  | [d1, d2] => { results := [.lit (.bool true)], args := [d1, d2] }
  | _ => none }
def fnExactShedSumRow : OpenClaim := { program := "ytecekhjlapaofaa", sum := "41752b7c10bbce15fe919edb59161339ed60d2ab2470f3fe792197a7e35ce6ac", func := "loop.example/powercontrol/laws.FnExactShedSum", spec := "fnExactShedSum", apart := false }
def FnExactShedSumSaid : Prop := fnExactShedSumRow.holds Try.pinned (OpenSpec.ofChange fnExactShedSumSpec)

/-- ITS FALSE NEIGHBOUR: 'it returns false'. Refute it at one input. -/
def fnExactShedSumWrong : ChangeSpec := { name := "fnExactShedSum", fn := fun _ => fun
  | [d1, d2] => { results := [.lit (.bool false)], args := [d1, d2] }
  | _ => none }
def FnExactShedSumWrongFalsely : Prop := fnExactShedSumRow.holds Try.pinned (OpenSpec.ofChange fnExactShedSumWrong)

/-- 'laws.FnExactShedFirst': WHATEVER THE INPUT: true; the input reads as it did. -/
def fnExactShedFirstSpec : ChangeSpec := { name := "fnExactShedFirst", fn := fun _ => fun
  | [d1, d2] => { results := [.lit (.bool true)], args := [d1, d2] }
  | _ => none }
def fnExactShedFirstRow : OpenClaim := { program := "ytecekhjlapaofaa", sum := "41752b7c10bbce15fe919edb59161339ed60d2ab2470f3fe792197a7e35ce6ac", func := "loop.example/powercontrol/laws.FnExactShedFirst", spec := "fnExactShedFirst", unfollowed := true, recurses := true, apart := false }
def FnExactShedFirstSaid : Prop := fnExactShedFirstRow.holds Try.pinned (OpenSpec.ofChange fnExactShedFirstSpec)

/-- ITS FALSE NEIGHBOUR: 'it returns false'. Refute it at one input. -/
def fnExactShedFirstWrong : ChangeSpec := { name := "fnExactShedFirst", fn := fun _ => fun
  | [d1, d2] => { results := [.lit (.bool false)], args := [d1, d2] }
  | _ => none }
def FnExactShedFirstWrongFalsely : Prop := fnExactShedFirstRow.holds Try.pinned (OpenSpec.ofChange fnExactShedFirstWrong)

/- THE SECOND FORM. 'bulk': how many values and letters a reading holds, each counted each time it is reached (what is shared counts as often as it is met; a slice's spare places count too). A statement '..UptoSaid' is the law's where the arguments, and the package variables that the reading takes, are together of bulk at most 1048576: NARROWER than '..Said'. Prove '..Said' where nothing that the law and all that it calls make is longer than what came in: it says more and counts as full. Else prove '..UptoSaid'. A law counts once. -/
mutual
def uptoBulk {H : Type} : DataW H → Nat
  | .lit (.string bytes) => bytes.length + 1
  | .lit _ => 1
  | .nil => 1
  | .ptr d => uptoBulk d + 1
  | .slice elems spare => uptoBulkAll elems + uptoBulkAll spare + 1
  | .agg parts => uptoBulkAll parts + 1
  | .iface _ d => uptoBulk d + 1
  | .map entries => uptoBulkEntries entries + 1
  | .held _ => 1
def uptoBulkAll {H : Type} : List (DataW H) → Nat
  | [] => 0
  | d :: r => uptoBulk d + uptoBulkAll r
def uptoBulkEntries {H : Type} : List (Lit × DataW H) → Nat
  | [] => 0
  | x :: r => uptoBulkEntry x + uptoBulkEntries r
def uptoBulkEntry {H : Type} : Lit × DataW H → Nat
  | (.string bytes, d) => bytes.length + uptoBulk d + 1
  | (_, d) => uptoBulk d + 1
 end
def uptoSmall : (H : Type) → List (DataW H) → Bool := fun _ ds => decide (uptoBulkAll ds ≤ 1048576)
def OpenSpec.upto (s : _root_.Go.ChangeSpec) : _root_.Go.OpenSpec := { _root_.Go.OpenSpec.ofChange s with cond := some uptoSmall }

/-- 'laws.FnExactBlocksValid', WHERE WHAT IT READS IS OF BULK AT MOST 1048576: true; the input reads as it did. -/
def fnExactBlocksValidUptoRow : OpenClaim := { program := "ytecekhjlapaofaa", sum := "41752b7c10bbce15fe919edb59161339ed60d2ab2470f3fe792197a7e35ce6ac", func := "loop.example/powercontrol/laws.FnExactBlocksValid", spec := "fnExactBlocksValid", apart := false, narrowed := true }
def FnExactBlocksValidUptoSaid : Prop := fnExactBlocksValidUptoRow.holds Try.pinned (OpenSpec.upto fnExactBlocksValidSpec)

/-- 'laws.FnExactShedSum', WHERE WHAT IT READS IS OF BULK AT MOST 1048576: true; the input reads as it did. -/
def fnExactShedSumUptoRow : OpenClaim := { program := "ytecekhjlapaofaa", sum := "41752b7c10bbce15fe919edb59161339ed60d2ab2470f3fe792197a7e35ce6ac", func := "loop.example/powercontrol/laws.FnExactShedSum", spec := "fnExactShedSum", apart := false, narrowed := true }
def FnExactShedSumUptoSaid : Prop := fnExactShedSumUptoRow.holds Try.pinned (OpenSpec.upto fnExactShedSumSpec)

/-- 'laws.FnExactShedFirst', WHERE WHAT IT READS IS OF BULK AT MOST 1048576: true; the input reads as it did. -/
def fnExactShedFirstUptoRow : OpenClaim := { program := "ytecekhjlapaofaa", sum := "41752b7c10bbce15fe919edb59161339ed60d2ab2470f3fe792197a7e35ce6ac", func := "loop.example/powercontrol/laws.FnExactShedFirst", spec := "fnExactShedFirst", unfollowed := true, recurses := true, apart := false, narrowed := true }
def FnExactShedFirstUptoSaid : Prop := fnExactShedFirstUptoRow.holds Try.pinned (OpenSpec.upto fnExactShedFirstSpec)

end Rows
end Go.Proofs.Ytecekhjlapaofaa
