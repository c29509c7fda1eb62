/-
  NARROWER THAN 'FOR EVERY INPUT', by the rows' own cells (each row's printed sentence says how): FnRelayTime: laid · FnCurrentFor: laid · FnFirstTrip: laid · FnLeastDial: laid · FnGradeOk: laid · FnGradeChain: laid.
  DERIVED. THE GIVEN ROWS OF THIS SEAT. 6 by the template 'for every input the law returns true; each argument reads behind the call as it read before'; 0 by the template 'total and deterministic' (their statements: YtkndokcpnlbipaaDoorTotals.lean).
  GIVEN WITH THE SEED: the statements are not yours to turn. If you find one false, say at which input.
  Laid BY PROGRAM, IN A SANDBOX (cutbox-rows.mjs): the forced cells as the released guide's own fill.sh prints them over the translation 9445a13652c24d55… (all of the seat's roots in one cut). By AI agents, Wed Nov 11 2026. No macro, syntax, notation, axiom, sorry.
-/
import Derived.Test.YtkndokcpnlbipaaDoorChecked
import GoSem.Claim
import GoSem.ClaimJoined
import GoSem.ClaimMapViews
import Derived.JoinedTies
import Derived.KernelRfl
namespace Go.Proofs.YtkndokcpnlbipaaDoor
/- THE CELL 'sum', in the pinned program and in every row, IS THE sha256 OF THE DUMP (.gsa) THAT YtkndokcpnlbipaaDoorProg.lean LOADS. Nothing in Lean hashes anything: it is a label: what it is worth is what the hold of that sum in a sandbox is worth. -/
noncomputable def Tryd.pinned : Pinned := { name := "ytkndokcpnlbipaadoor", sum := "9445a13652c24d552178fcc43184e394b57279513915ed1fed1ccaa4a6f3aba2", checked := Tryd.checked }
namespace Rows
def none {H : Type} : Left H := { results := [], args := [] }

/- WHAT THE LISTED PACKAGE-LEVEL VARIABLES READ AS WHEN THE CALL BEGINS. Each datum BY PROGRAM (the guide's laid-datum.mjs) off the statement by which the dump's own 'gosem.cut.vars' lays the variable. In a bare row this is a premise. The card (YtkndokcpnlbipaaDoorCards.lean) ties it to the program's text. -/
def laid_math_bits_deBruijn32tab {H : Type} : DataW H := .agg [.lit (.int .u8 0), .lit (.int .u8 1), .lit (.int .u8 28), .lit (.int .u8 2), .lit (.int .u8 29), .lit (.int .u8 14), .lit (.int .u8 24), .lit (.int .u8 3), .lit (.int .u8 30), .lit (.int .u8 22), .lit (.int .u8 20), .lit (.int .u8 15), .lit (.int .u8 25), .lit (.int .u8 17), .lit (.int .u8 4), .lit (.int .u8 8), .lit (.int .u8 31), .lit (.int .u8 27), .lit (.int .u8 13), .lit (.int .u8 23), .lit (.int .u8 21), .lit (.int .u8 19), .lit (.int .u8 16), .lit (.int .u8 7), .lit (.int .u8 26), .lit (.int .u8 12), .lit (.int .u8 18), .lit (.int .u8 6), .lit (.int .u8 11), .lit (.int .u8 5), .lit (.int .u8 10), .lit (.int .u8 9)]
def laid_math_bits_deBruijn64tab {H : Type} : DataW H := .agg [.lit (.int .u8 0), .lit (.int .u8 1), .lit (.int .u8 56), .lit (.int .u8 2), .lit (.int .u8 57), .lit (.int .u8 49), .lit (.int .u8 28), .lit (.int .u8 3), .lit (.int .u8 61), .lit (.int .u8 58), .lit (.int .u8 42), .lit (.int .u8 50), .lit (.int .u8 38), .lit (.int .u8 29), .lit (.int .u8 17), .lit (.int .u8 4), .lit (.int .u8 62), .lit (.int .u8 47), .lit (.int .u8 59), .lit (.int .u8 36), .lit (.int .u8 45), .lit (.int .u8 43), .lit (.int .u8 51), .lit (.int .u8 22), .lit (.int .u8 53), .lit (.int .u8 39), .lit (.int .u8 33), .lit (.int .u8 30), .lit (.int .u8 24), .lit (.int .u8 18), .lit (.int .u8 12), .lit (.int .u8 5), .lit (.int .u8 63), .lit (.int .u8 55), .lit (.int .u8 48), .lit (.int .u8 27), .lit (.int .u8 60), .lit (.int .u8 41), .lit (.int .u8 37), .lit (.int .u8 16), .lit (.int .u8 46), .lit (.int .u8 35), .lit (.int .u8 44), .lit (.int .u8 21), .lit (.int .u8 52), .lit (.int .u8 32), .lit (.int .u8 23), .lit (.int .u8 11), .lit (.int .u8 54), .lit (.int .u8 26), .lit (.int .u8 40), .lit (.int .u8 15), .lit (.int .u8 34), .lit (.int .u8 20), .lit (.int .u8 31), .lit (.int .u8 10), .lit (.int .u8 25), .lit (.int .u8 14), .lit (.int .u8 19), .lit (.int .u8 9), .lit (.int .u8 13), .lit (.int .u8 8), .lit (.int .u8 7), .lit (.int .u8 6)]
def laid_internal_strconv_uint64pow10 {H : Type} : DataW H := .agg [.lit (.int .u64 1), .lit (.int .u64 10), .lit (.int .u64 100), .lit (.int .u64 1000), .lit (.int .u64 10000), .lit (.int .u64 100000), .lit (.int .u64 1000000), .lit (.int .u64 10000000), .lit (.int .u64 100000000), .lit (.int .u64 1000000000), .lit (.int .u64 10000000000), .lit (.int .u64 100000000000), .lit (.int .u64 1000000000000), .lit (.int .u64 10000000000000), .lit (.int .u64 100000000000000), .lit (.int .u64 1000000000000000), .lit (.int .u64 10000000000000000), .lit (.int .u64 100000000000000000), .lit (.int .u64 1000000000000000000), .lit (.int .u64 10000000000000000000)]

/-- 'laws.FnRelayTime': WHATEVER THE INPUT: true; the input reads as it did. -/
def fnRelayTimeSpec : ChangeSpec := { name := "fnRelayTime", fn := fun _ => fun
  | [d] => { results := [.lit (.bool true)], args := [d] }
  | _ => none }
def fnRelayTimeRow : OpenClaim := { program := "ytkndokcpnlbipaadoor", sum := "9445a13652c24d552178fcc43184e394b57279513915ed1fed1ccaa4a6f3aba2", func := "loop.example/powercontrol/laws.FnRelayTime", spec := "fnRelayTime", inPlace := ["internal/abi.NoEscape"], named := ["internal/strconv.uint64pow10", "math/bits.deBruijn32tab", "math/bits.deBruijn64tab"], apart := false, laid := [("math/bits.deBruijn32tab", laid_math_bits_deBruijn32tab), ("math/bits.deBruijn64tab", laid_math_bits_deBruijn64tab), ("internal/strconv.uint64pow10", laid_internal_strconv_uint64pow10)] }
def FnRelayTimeSaid : Prop := fnRelayTimeRow.holds Tryd.pinned (OpenSpec.ofChange fnRelayTimeSpec)

/-- ITS FALSE NEIGHBOUR: 'it returns false'. Refute it at one input. -/
def fnRelayTimeWrong : ChangeSpec := { name := "fnRelayTime", fn := fun _ => fun
  | [d] => { results := [.lit (.bool false)], args := [d] }
  | _ => none }
def FnRelayTimeWrongFalsely : Prop := fnRelayTimeRow.holds Tryd.pinned (OpenSpec.ofChange fnRelayTimeWrong)

/-- 'laws.FnCurrentFor': WHATEVER THE INPUT: true; the input reads as it did. -/
def fnCurrentForSpec : ChangeSpec := { name := "fnCurrentFor", fn := fun _ => fun
  | [d] => { results := [.lit (.bool true)], args := [d] }
  | _ => none }
def fnCurrentForRow : OpenClaim := { program := "ytkndokcpnlbipaadoor", sum := "9445a13652c24d552178fcc43184e394b57279513915ed1fed1ccaa4a6f3aba2", func := "loop.example/powercontrol/laws.FnCurrentFor", spec := "fnCurrentFor", inPlace := ["internal/abi.NoEscape"], named := ["internal/strconv.uint64pow10", "math/bits.deBruijn32tab", "math/bits.deBruijn64tab"], apart := false, laid := [("math/bits.deBruijn32tab", laid_math_bits_deBruijn32tab), ("math/bits.deBruijn64tab", laid_math_bits_deBruijn64tab), ("internal/strconv.uint64pow10", laid_internal_strconv_uint64pow10)] }
def FnCurrentForSaid : Prop := fnCurrentForRow.holds Tryd.pinned (OpenSpec.ofChange fnCurrentForSpec)

/-- ITS FALSE NEIGHBOUR: 'it returns false'. Refute it at one input. -/
def fnCurrentForWrong : ChangeSpec := { name := "fnCurrentFor", fn := fun _ => fun
  | [d] => { results := [.lit (.bool false)], args := [d] }
  | _ => none }
def FnCurrentForWrongFalsely : Prop := fnCurrentForRow.holds Tryd.pinned (OpenSpec.ofChange fnCurrentForWrong)

/-- 'laws.FnFirstTrip': WHATEVER THE INPUT: true; the input reads as it did. -/
def fnFirstTripSpec : ChangeSpec := { name := "fnFirstTrip", fn := fun _ => fun
  | [d] => { results := [.lit (.bool true)], args := [d] }
  | _ => none }
def fnFirstTripRow : OpenClaim := { program := "ytkndokcpnlbipaadoor", sum := "9445a13652c24d552178fcc43184e394b57279513915ed1fed1ccaa4a6f3aba2", func := "loop.example/powercontrol/laws.FnFirstTrip", spec := "fnFirstTrip", inPlace := ["internal/abi.NoEscape"], named := ["internal/strconv.uint64pow10", "math/bits.deBruijn32tab", "math/bits.deBruijn64tab"], apart := false, laid := [("math/bits.deBruijn32tab", laid_math_bits_deBruijn32tab), ("math/bits.deBruijn64tab", laid_math_bits_deBruijn64tab), ("internal/strconv.uint64pow10", laid_internal_strconv_uint64pow10)] }
def FnFirstTripSaid : Prop := fnFirstTripRow.holds Tryd.pinned (OpenSpec.ofChange fnFirstTripSpec)

/-- ITS FALSE NEIGHBOUR: 'it returns false'. Refute it at one input. -/
def fnFirstTripWrong : ChangeSpec := { name := "fnFirstTrip", fn := fun _ => fun
  | [d] => { results := [.lit (.bool false)], args := [d] }
  | _ => none }
def FnFirstTripWrongFalsely : Prop := fnFirstTripRow.holds Tryd.pinned (OpenSpec.ofChange fnFirstTripWrong)

/-- 'laws.FnLeastDial': WHATEVER THE INPUT: true; the input reads as it did. -/
def fnLeastDialSpec : ChangeSpec := { name := "fnLeastDial", fn := fun _ => fun
  | [d] => { results := [.lit (.bool true)], args := [d] }
  | _ => none }
def fnLeastDialRow : OpenClaim := { program := "ytkndokcpnlbipaadoor", sum := "9445a13652c24d552178fcc43184e394b57279513915ed1fed1ccaa4a6f3aba2", func := "loop.example/powercontrol/laws.FnLeastDial", spec := "fnLeastDial", inPlace := ["internal/abi.NoEscape"], named := ["internal/strconv.uint64pow10", "math/bits.deBruijn32tab", "math/bits.deBruijn64tab"], apart := false, laid := [("math/bits.deBruijn32tab", laid_math_bits_deBruijn32tab), ("math/bits.deBruijn64tab", laid_math_bits_deBruijn64tab), ("internal/strconv.uint64pow10", laid_internal_strconv_uint64pow10)] }
def FnLeastDialSaid : Prop := fnLeastDialRow.holds Tryd.pinned (OpenSpec.ofChange fnLeastDialSpec)

/-- ITS FALSE NEIGHBOUR: 'it returns false'. Refute it at one input. -/
def fnLeastDialWrong : ChangeSpec := { name := "fnLeastDial", fn := fun _ => fun
  | [d] => { results := [.lit (.bool false)], args := [d] }
  | _ => none }
def FnLeastDialWrongFalsely : Prop := fnLeastDialRow.holds Tryd.pinned (OpenSpec.ofChange fnLeastDialWrong)

/-- 'laws.FnGradeOk': WHATEVER THE INPUT: true; the input reads as it did. -/
def fnGradeOkSpec : ChangeSpec := { name := "fnGradeOk", fn := fun _ => fun
  | [d] => { results := [.lit (.bool true)], args := [d] }
  | _ => none }
def fnGradeOkRow : OpenClaim := { program := "ytkndokcpnlbipaadoor", sum := "9445a13652c24d552178fcc43184e394b57279513915ed1fed1ccaa4a6f3aba2", func := "loop.example/powercontrol/laws.FnGradeOk", spec := "fnGradeOk", inPlace := ["internal/abi.NoEscape"], named := ["internal/strconv.uint64pow10", "math/bits.deBruijn32tab", "math/bits.deBruijn64tab"], apart := false, laid := [("math/bits.deBruijn32tab", laid_math_bits_deBruijn32tab), ("math/bits.deBruijn64tab", laid_math_bits_deBruijn64tab), ("internal/strconv.uint64pow10", laid_internal_strconv_uint64pow10)] }
def FnGradeOkSaid : Prop := fnGradeOkRow.holds Tryd.pinned (OpenSpec.ofChange fnGradeOkSpec)

/-- ITS FALSE NEIGHBOUR: 'it returns false'. Refute it at one input. -/
def fnGradeOkWrong : ChangeSpec := { name := "fnGradeOk", fn := fun _ => fun
  | [d] => { results := [.lit (.bool false)], args := [d] }
  | _ => none }
def FnGradeOkWrongFalsely : Prop := fnGradeOkRow.holds Tryd.pinned (OpenSpec.ofChange fnGradeOkWrong)

/-- 'laws.FnGradeChain': WHATEVER THE INPUT: true; the input reads as it did. -/
def fnGradeChainSpec : ChangeSpec := { name := "fnGradeChain", fn := fun _ => fun
  | [d] => { results := [.lit (.bool true)], args := [d] }
  | _ => none }
def fnGradeChainRow : OpenClaim := { program := "ytkndokcpnlbipaadoor", sum := "9445a13652c24d552178fcc43184e394b57279513915ed1fed1ccaa4a6f3aba2", func := "loop.example/powercontrol/laws.FnGradeChain", spec := "fnGradeChain", inPlace := ["internal/abi.NoEscape"], named := ["internal/strconv.uint64pow10", "math/bits.deBruijn32tab", "math/bits.deBruijn64tab"], apart := false, laid := [("math/bits.deBruijn32tab", laid_math_bits_deBruijn32tab), ("math/bits.deBruijn64tab", laid_math_bits_deBruijn64tab), ("internal/strconv.uint64pow10", laid_internal_strconv_uint64pow10)] }
def FnGradeChainSaid : Prop := fnGradeChainRow.holds Tryd.pinned (OpenSpec.ofChange fnGradeChainSpec)

/-- ITS FALSE NEIGHBOUR: 'it returns false'. Refute it at one input. -/
def fnGradeChainWrong : ChangeSpec := { name := "fnGradeChain", fn := fun _ => fun
  | [d] => { results := [.lit (.bool false)], args := [d] }
  | _ => none }
def FnGradeChainWrongFalsely : Prop := fnGradeChainRow.holds Tryd.pinned (OpenSpec.ofChange fnGradeChainWrong)

/- THE SECOND FORM. 'bulk': how many values and letters a reading holds, each counted each time it is reached (what is shared counts as often as it is met; a slice's spare places count too). A statement '..UptoSaid' is the law's where the arguments, and the package variables that the reading takes, are together of bulk at most 1048576: NARROWER than '..Said'. Prove '..Said' where nothing that the law and all that it calls make is longer than what came in: it says more and counts as full. Else prove '..UptoSaid'. A law counts once. -/
mutual
def uptoBulk {H : Type} : DataW H → Nat
  | .lit (.string bytes) => bytes.length + 1
  | .lit _ => 1
  | .nil => 1
  | .ptr d => uptoBulk d + 1
  | .slice elems spare => uptoBulkAll elems + uptoBulkAll spare + 1
  | .agg parts => uptoBulkAll parts + 1
  | .iface _ d => uptoBulk d + 1
  | .map entries => uptoBulkEntries entries + 1
  | .held _ => 1
def uptoBulkAll {H : Type} : List (DataW H) → Nat
  | [] => 0
  | d :: r => uptoBulk d + uptoBulkAll r
def uptoBulkEntries {H : Type} : List (Lit × DataW H) → Nat
  | [] => 0
  | x :: r => uptoBulkEntry x + uptoBulkEntries r
def uptoBulkEntry {H : Type} : Lit × DataW H → Nat
  | (.string bytes, d) => bytes.length + uptoBulk d + 1
  | (_, d) => uptoBulk d + 1
 end
def uptoSmall : (H : Type) → List (DataW H) → Bool := fun _ ds => decide (uptoBulkAll ds ≤ 1048576)
def OpenSpec.upto (s : _root_.Go.ChangeSpec) : _root_.Go.OpenSpec := { _root_.Go.OpenSpec.ofChange s with cond := some uptoSmall }

/-- 'laws.FnRelayTime', WHERE WHAT IT READS IS OF BULK AT MOST 1048576: true; the input reads as it did. -/
def fnRelayTimeUptoRow : OpenClaim := { program := "ytkndokcpnlbipaadoor", sum := "9445a13652c24d552178fcc43184e394b57279513915ed1fed1ccaa4a6f3aba2", func := "loop.example/powercontrol/laws.FnRelayTime", spec := "fnRelayTime", inPlace := ["internal/abi.NoEscape"], named := ["internal/strconv.uint64pow10", "math/bits.deBruijn32tab", "math/bits.deBruijn64tab"], apart := false, laid := [("math/bits.deBruijn32tab", laid_math_bits_deBruijn32tab), ("math/bits.deBruijn64tab", laid_math_bits_deBruijn64tab), ("internal/strconv.uint64pow10", laid_internal_strconv_uint64pow10)], narrowed := true }
def FnRelayTimeUptoSaid : Prop := fnRelayTimeUptoRow.holds Tryd.pinned (OpenSpec.upto fnRelayTimeSpec)

/-- 'laws.FnCurrentFor', WHERE WHAT IT READS IS OF BULK AT MOST 1048576: true; the input reads as it did. -/
def fnCurrentForUptoRow : OpenClaim := { program := "ytkndokcpnlbipaadoor", sum := "9445a13652c24d552178fcc43184e394b57279513915ed1fed1ccaa4a6f3aba2", func := "loop.example/powercontrol/laws.FnCurrentFor", spec := "fnCurrentFor", inPlace := ["internal/abi.NoEscape"], named := ["internal/strconv.uint64pow10", "math/bits.deBruijn32tab", "math/bits.deBruijn64tab"], apart := false, laid := [("math/bits.deBruijn32tab", laid_math_bits_deBruijn32tab), ("math/bits.deBruijn64tab", laid_math_bits_deBruijn64tab), ("internal/strconv.uint64pow10", laid_internal_strconv_uint64pow10)], narrowed := true }
def FnCurrentForUptoSaid : Prop := fnCurrentForUptoRow.holds Tryd.pinned (OpenSpec.upto fnCurrentForSpec)

/-- 'laws.FnFirstTrip', WHERE WHAT IT READS IS OF BULK AT MOST 1048576: true; the input reads as it did. -/
def fnFirstTripUptoRow : OpenClaim := { program := "ytkndokcpnlbipaadoor", sum := "9445a13652c24d552178fcc43184e394b57279513915ed1fed1ccaa4a6f3aba2", func := "loop.example/powercontrol/laws.FnFirstTrip", spec := "fnFirstTrip", inPlace := ["internal/abi.NoEscape"], named := ["internal/strconv.uint64pow10", "math/bits.deBruijn32tab", "math/bits.deBruijn64tab"], apart := false, laid := [("math/bits.deBruijn32tab", laid_math_bits_deBruijn32tab), ("math/bits.deBruijn64tab", laid_math_bits_deBruijn64tab), ("internal/strconv.uint64pow10", laid_internal_strconv_uint64pow10)], narrowed := true }
def FnFirstTripUptoSaid : Prop := fnFirstTripUptoRow.holds Tryd.pinned (OpenSpec.upto fnFirstTripSpec)

/-- 'laws.FnLeastDial', WHERE WHAT IT READS IS OF BULK AT MOST 1048576: true; the input reads as it did. -/
def fnLeastDialUptoRow : OpenClaim := { program := "ytkndokcpnlbipaadoor", sum := "9445a13652c24d552178fcc43184e394b57279513915ed1fed1ccaa4a6f3aba2", func := "loop.example/powercontrol/laws.FnLeastDial", spec := "fnLeastDial", inPlace := ["internal/abi.NoEscape"], named := ["internal/strconv.uint64pow10", "math/bits.deBruijn32tab", "math/bits.deBruijn64tab"], apart := false, laid := [("math/bits.deBruijn32tab", laid_math_bits_deBruijn32tab), ("math/bits.deBruijn64tab", laid_math_bits_deBruijn64tab), ("internal/strconv.uint64pow10", laid_internal_strconv_uint64pow10)], narrowed := true }
def FnLeastDialUptoSaid : Prop := fnLeastDialUptoRow.holds Tryd.pinned (OpenSpec.upto fnLeastDialSpec)

/-- 'laws.FnGradeOk', WHERE WHAT IT READS IS OF BULK AT MOST 1048576: true; the input reads as it did. -/
def fnGradeOkUptoRow : OpenClaim := { program := "ytkndokcpnlbipaadoor", sum := "9445a13652c24d552178fcc43184e394b57279513915ed1fed1ccaa4a6f3aba2", func := "loop.example/powercontrol/laws.FnGradeOk", spec := "fnGradeOk", inPlace := ["internal/abi.NoEscape"], named := ["internal/strconv.uint64pow10", "math/bits.deBruijn32tab", "math/bits.deBruijn64tab"], apart := false, laid := [("math/bits.deBruijn32tab", laid_math_bits_deBruijn32tab), ("math/bits.deBruijn64tab", laid_math_bits_deBruijn64tab), ("internal/strconv.uint64pow10", laid_internal_strconv_uint64pow10)], narrowed := true }
def FnGradeOkUptoSaid : Prop := fnGradeOkUptoRow.holds Tryd.pinned (OpenSpec.upto fnGradeOkSpec)

/-- 'laws.FnGradeChain', WHERE WHAT IT READS IS OF BULK AT MOST 1048576: true; the input reads as it did. -/
def fnGradeChainUptoRow : OpenClaim := { program := "ytkndokcpnlbipaadoor", sum := "9445a13652c24d552178fcc43184e394b57279513915ed1fed1ccaa4a6f3aba2", func := "loop.example/powercontrol/laws.FnGradeChain", spec := "fnGradeChain", inPlace := ["internal/abi.NoEscape"], named := ["internal/strconv.uint64pow10", "math/bits.deBruijn32tab", "math/bits.deBruijn64tab"], apart := false, laid := [("math/bits.deBruijn32tab", laid_math_bits_deBruijn32tab), ("math/bits.deBruijn64tab", laid_math_bits_deBruijn64tab), ("internal/strconv.uint64pow10", laid_internal_strconv_uint64pow10)], narrowed := true }
def FnGradeChainUptoSaid : Prop := fnGradeChainUptoRow.holds Tryd.pinned (OpenSpec.upto fnGradeChainSpec)

end Rows
end Go.Proofs.YtkndokcpnlbipaaDoor
