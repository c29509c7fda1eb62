/-
  NARROWER THAN 'FOR EVERY INPUT', by the rows' own cells (each row's printed sentence says how): FnUnitsValid: laid · FnOutputsValid: laid · FnOutputCost: laid · FnRampUnits: laid · FnNextCost: laid · FnDispatch: laid · FnRampRange: laid · FnCommitCost: laid · FnSpareOf: laid · FnRampNext: laid · FnRampRun: laid · FnCommit: laid.
  DERIVED. THE GIVEN ROWS OF THIS SEAT. 12 by the template 'for every input the law returns true; each argument reads behind the call as it read before'; 0 by the template 'total and deterministic' (their statements: YtcpopbkcphpdfaaDoorTotals.lean).
  GIVEN WITH THE SEED: the statements are not yours to turn. If you find one false, say at which input.
  Laid BY PROGRAM, IN A SANDBOX (cutbox-rows.mjs): the forced cells as the released guide's own fill.sh prints them over the translation 5ad898d9984a23ef… (all of the seat's roots in one cut). By AI agents, Wed Nov 11 2026. No macro, syntax, notation, axiom, sorry.
-/
import Derived.Test.YtcpopbkcphpdfaaDoorChecked
import GoSem.Claim
import GoSem.ClaimJoined
import GoSem.ClaimMapViews
import Derived.JoinedTies
import Derived.KernelRfl
namespace Go.Proofs.YtcpopbkcphpdfaaDoor
/- THE CELL 'sum', in the pinned program and in every row, IS THE sha256 OF THE DUMP (.gsa) THAT YtcpopbkcphpdfaaDoorProg.lean LOADS. Nothing in Lean hashes anything: it is a label: what it is worth is what the hold of that sum in a sandbox is worth. -/
noncomputable def Tryd.pinned : Pinned := { name := "ytcpopbkcphpdfaadoor", sum := "5ad898d9984a23ef0f7a7d5f44e602b5eed8c956f318411e488dee0e044e5e8b", checked := Tryd.checked }
namespace Rows
def none {H : Type} : Left H := { results := [], args := [] }

/- WHAT THE LISTED PACKAGE-LEVEL VARIABLES READ AS WHEN THE CALL BEGINS. Each datum BY PROGRAM (the guide's laid-datum.mjs) off the statement by which the dump's own 'gosem.cut.vars' lays the variable. In a bare row this is a premise. The card (YtcpopbkcphpdfaaDoorCards.lean) ties it to the program's text. -/
def laid_math_bits_deBruijn32tab {H : Type} : DataW H := .agg [.lit (.int .u8 0), .lit (.int .u8 1), .lit (.int .u8 28), .lit (.int .u8 2), .lit (.int .u8 29), .lit (.int .u8 14), .lit (.int .u8 24), .lit (.int .u8 3), .lit (.int .u8 30), .lit (.int .u8 22), .lit (.int .u8 20), .lit (.int .u8 15), .lit (.int .u8 25), .lit (.int .u8 17), .lit (.int .u8 4), .lit (.int .u8 8), .lit (.int .u8 31), .lit (.int .u8 27), .lit (.int .u8 13), .lit (.int .u8 23), .lit (.int .u8 21), .lit (.int .u8 19), .lit (.int .u8 16), .lit (.int .u8 7), .lit (.int .u8 26), .lit (.int .u8 12), .lit (.int .u8 18), .lit (.int .u8 6), .lit (.int .u8 11), .lit (.int .u8 5), .lit (.int .u8 10), .lit (.int .u8 9)]
def laid_math_bits_deBruijn64tab {H : Type} : DataW H := .agg [.lit (.int .u8 0), .lit (.int .u8 1), .lit (.int .u8 56), .lit (.int .u8 2), .lit (.int .u8 57), .lit (.int .u8 49), .lit (.int .u8 28), .lit (.int .u8 3), .lit (.int .u8 61), .lit (.int .u8 58), .lit (.int .u8 42), .lit (.int .u8 50), .lit (.int .u8 38), .lit (.int .u8 29), .lit (.int .u8 17), .lit (.int .u8 4), .lit (.int .u8 62), .lit (.int .u8 47), .lit (.int .u8 59), .lit (.int .u8 36), .lit (.int .u8 45), .lit (.int .u8 43), .lit (.int .u8 51), .lit (.int .u8 22), .lit (.int .u8 53), .lit (.int .u8 39), .lit (.int .u8 33), .lit (.int .u8 30), .lit (.int .u8 24), .lit (.int .u8 18), .lit (.int .u8 12), .lit (.int .u8 5), .lit (.int .u8 63), .lit (.int .u8 55), .lit (.int .u8 48), .lit (.int .u8 27), .lit (.int .u8 60), .lit (.int .u8 41), .lit (.int .u8 37), .lit (.int .u8 16), .lit (.int .u8 46), .lit (.int .u8 35), .lit (.int .u8 44), .lit (.int .u8 21), .lit (.int .u8 52), .lit (.int .u8 32), .lit (.int .u8 23), .lit (.int .u8 11), .lit (.int .u8 54), .lit (.int .u8 26), .lit (.int .u8 40), .lit (.int .u8 15), .lit (.int .u8 34), .lit (.int .u8 20), .lit (.int .u8 31), .lit (.int .u8 10), .lit (.int .u8 25), .lit (.int .u8 14), .lit (.int .u8 19), .lit (.int .u8 9), .lit (.int .u8 13), .lit (.int .u8 8), .lit (.int .u8 7), .lit (.int .u8 6)]
def laid_internal_strconv_uint64pow10 {H : Type} : DataW H := .agg [.lit (.int .u64 1), .lit (.int .u64 10), .lit (.int .u64 100), .lit (.int .u64 1000), .lit (.int .u64 10000), .lit (.int .u64 100000), .lit (.int .u64 1000000), .lit (.int .u64 10000000), .lit (.int .u64 100000000), .lit (.int .u64 1000000000), .lit (.int .u64 10000000000), .lit (.int .u64 100000000000), .lit (.int .u64 1000000000000), .lit (.int .u64 10000000000000), .lit (.int .u64 100000000000000), .lit (.int .u64 1000000000000000), .lit (.int .u64 10000000000000000), .lit (.int .u64 100000000000000000), .lit (.int .u64 1000000000000000000), .lit (.int .u64 10000000000000000000)]

/-- 'laws.FnUnitsValid': WHATEVER THE INPUT: true; the input reads as it did. -/
def fnUnitsValidSpec : ChangeSpec := { name := "fnUnitsValid", fn := fun _ => fun
  | [d] => { results := [.lit (.bool true)], args := [d] }
  | _ => none }
def fnUnitsValidRow : OpenClaim := { program := "ytcpopbkcphpdfaadoor", sum := "5ad898d9984a23ef0f7a7d5f44e602b5eed8c956f318411e488dee0e044e5e8b", func := "loop.example/powercontrol/laws.FnUnitsValid", spec := "fnUnitsValid", inPlace := ["internal/abi.NoEscape"], named := ["internal/strconv.uint64pow10", "math/bits.deBruijn32tab", "math/bits.deBruijn64tab"], apart := false, laid := [("math/bits.deBruijn32tab", laid_math_bits_deBruijn32tab), ("math/bits.deBruijn64tab", laid_math_bits_deBruijn64tab), ("internal/strconv.uint64pow10", laid_internal_strconv_uint64pow10)] }
def FnUnitsValidSaid : Prop := fnUnitsValidRow.holds Tryd.pinned (OpenSpec.ofChange fnUnitsValidSpec)

/-- ITS FALSE NEIGHBOUR: 'it returns false'. Refute it at one input. -/
def fnUnitsValidWrong : ChangeSpec := { name := "fnUnitsValid", fn := fun _ => fun
  | [d] => { results := [.lit (.bool false)], args := [d] }
  | _ => none }
def FnUnitsValidWrongFalsely : Prop := fnUnitsValidRow.holds Tryd.pinned (OpenSpec.ofChange fnUnitsValidWrong)

/-- 'laws.FnOutputsValid': WHATEVER THE INPUT: true; the input reads as it did. -/
def fnOutputsValidSpec : ChangeSpec := { name := "fnOutputsValid", fn := fun _ => fun
  | [d] => { results := [.lit (.bool true)], args := [d] }
  | _ => none }
def fnOutputsValidRow : OpenClaim := { program := "ytcpopbkcphpdfaadoor", sum := "5ad898d9984a23ef0f7a7d5f44e602b5eed8c956f318411e488dee0e044e5e8b", func := "loop.example/powercontrol/laws.FnOutputsValid", spec := "fnOutputsValid", inPlace := ["internal/abi.NoEscape"], named := ["internal/strconv.uint64pow10", "math/bits.deBruijn32tab", "math/bits.deBruijn64tab"], apart := false, laid := [("math/bits.deBruijn32tab", laid_math_bits_deBruijn32tab), ("math/bits.deBruijn64tab", laid_math_bits_deBruijn64tab), ("internal/strconv.uint64pow10", laid_internal_strconv_uint64pow10)] }
def FnOutputsValidSaid : Prop := fnOutputsValidRow.holds Tryd.pinned (OpenSpec.ofChange fnOutputsValidSpec)

/-- ITS FALSE NEIGHBOUR: 'it returns false'. Refute it at one input. -/
def fnOutputsValidWrong : ChangeSpec := { name := "fnOutputsValid", fn := fun _ => fun
  | [d] => { results := [.lit (.bool false)], args := [d] }
  | _ => none }
def FnOutputsValidWrongFalsely : Prop := fnOutputsValidRow.holds Tryd.pinned (OpenSpec.ofChange fnOutputsValidWrong)

/-- 'laws.FnOutputCost': WHATEVER THE INPUT: true; the input reads as it did. -/
def fnOutputCostSpec : ChangeSpec := { name := "fnOutputCost", fn := fun _ => fun
  | [d] => { results := [.lit (.bool true)], args := [d] }
  | _ => none }
def fnOutputCostRow : OpenClaim := { program := "ytcpopbkcphpdfaadoor", sum := "5ad898d9984a23ef0f7a7d5f44e602b5eed8c956f318411e488dee0e044e5e8b", func := "loop.example/powercontrol/laws.FnOutputCost", spec := "fnOutputCost", inPlace := ["internal/abi.NoEscape"], named := ["internal/strconv.uint64pow10", "math/bits.deBruijn32tab", "math/bits.deBruijn64tab"], apart := false, laid := [("math/bits.deBruijn32tab", laid_math_bits_deBruijn32tab), ("math/bits.deBruijn64tab", laid_math_bits_deBruijn64tab), ("internal/strconv.uint64pow10", laid_internal_strconv_uint64pow10)] }
def FnOutputCostSaid : Prop := fnOutputCostRow.holds Tryd.pinned (OpenSpec.ofChange fnOutputCostSpec)

/-- ITS FALSE NEIGHBOUR: 'it returns false'. Refute it at one input. -/
def fnOutputCostWrong : ChangeSpec := { name := "fnOutputCost", fn := fun _ => fun
  | [d] => { results := [.lit (.bool false)], args := [d] }
  | _ => none }
def FnOutputCostWrongFalsely : Prop := fnOutputCostRow.holds Tryd.pinned (OpenSpec.ofChange fnOutputCostWrong)

/-- 'laws.FnRampUnits': WHATEVER THE INPUT: true; the input reads as it did. -/
def fnRampUnitsSpec : ChangeSpec := { name := "fnRampUnits", fn := fun _ => fun
  | [d] => { results := [.lit (.bool true)], args := [d] }
  | _ => none }
def fnRampUnitsRow : OpenClaim := { program := "ytcpopbkcphpdfaadoor", sum := "5ad898d9984a23ef0f7a7d5f44e602b5eed8c956f318411e488dee0e044e5e8b", func := "loop.example/powercontrol/laws.FnRampUnits", spec := "fnRampUnits", inPlace := ["internal/abi.NoEscape"], named := ["internal/strconv.uint64pow10", "math/bits.deBruijn32tab", "math/bits.deBruijn64tab"], apart := false, laid := [("math/bits.deBruijn32tab", laid_math_bits_deBruijn32tab), ("math/bits.deBruijn64tab", laid_math_bits_deBruijn64tab), ("internal/strconv.uint64pow10", laid_internal_strconv_uint64pow10)] }
def FnRampUnitsSaid : Prop := fnRampUnitsRow.holds Tryd.pinned (OpenSpec.ofChange fnRampUnitsSpec)

/-- ITS FALSE NEIGHBOUR: 'it returns false'. Refute it at one input. -/
def fnRampUnitsWrong : ChangeSpec := { name := "fnRampUnits", fn := fun _ => fun
  | [d] => { results := [.lit (.bool false)], args := [d] }
  | _ => none }
def FnRampUnitsWrongFalsely : Prop := fnRampUnitsRow.holds Tryd.pinned (OpenSpec.ofChange fnRampUnitsWrong)

/-- 'laws.FnNextCost': WHATEVER THE INPUT: true; the input reads as it did. -/
def fnNextCostSpec : ChangeSpec := { name := "fnNextCost", fn := fun _ => fun
  | [d] => { results := [.lit (.bool true)], args := [d] }
  | _ => none }
def fnNextCostRow : OpenClaim := { program := "ytcpopbkcphpdfaadoor", sum := "5ad898d9984a23ef0f7a7d5f44e602b5eed8c956f318411e488dee0e044e5e8b", func := "loop.example/powercontrol/laws.FnNextCost", spec := "fnNextCost", inPlace := ["internal/abi.NoEscape"], unfollowed := true, recurses := true, named := ["internal/strconv.uint64pow10", "math/bits.deBruijn32tab", "math/bits.deBruijn64tab"], apart := false, laid := [("math/bits.deBruijn32tab", laid_math_bits_deBruijn32tab), ("math/bits.deBruijn64tab", laid_math_bits_deBruijn64tab), ("internal/strconv.uint64pow10", laid_internal_strconv_uint64pow10)] }
def FnNextCostSaid : Prop := fnNextCostRow.holds Tryd.pinned (OpenSpec.ofChange fnNextCostSpec)

/-- ITS FALSE NEIGHBOUR: 'it returns false'. Refute it at one input. -/
def fnNextCostWrong : ChangeSpec := { name := "fnNextCost", fn := fun _ => fun
  | [d] => { results := [.lit (.bool false)], args := [d] }
  | _ => none }
def FnNextCostWrongFalsely : Prop := fnNextCostRow.holds Tryd.pinned (OpenSpec.ofChange fnNextCostWrong)

/-- 'laws.FnDispatch': WHATEVER THE INPUT: true; the input reads as it did. -/
def fnDispatchSpec : ChangeSpec := { name := "fnDispatch", fn := fun _ => fun
  | [d1, d2] => { results := [.lit (.bool true)], args := [d1, d2] }
  | _ => none }
def fnDispatchRow : OpenClaim := { program := "ytcpopbkcphpdfaadoor", sum := "5ad898d9984a23ef0f7a7d5f44e602b5eed8c956f318411e488dee0e044e5e8b", func := "loop.example/powercontrol/laws.FnDispatch", spec := "fnDispatch", inPlace := ["internal/abi.NoEscape"], unfollowed := true, recurses := true, named := ["internal/strconv.uint64pow10", "math/bits.deBruijn32tab", "math/bits.deBruijn64tab"], apart := false, laid := [("math/bits.deBruijn32tab", laid_math_bits_deBruijn32tab), ("math/bits.deBruijn64tab", laid_math_bits_deBruijn64tab), ("internal/strconv.uint64pow10", laid_internal_strconv_uint64pow10)] }
def FnDispatchSaid : Prop := fnDispatchRow.holds Tryd.pinned (OpenSpec.ofChange fnDispatchSpec)

/-- ITS FALSE NEIGHBOUR: 'it returns false'. Refute it at one input. -/
def fnDispatchWrong : ChangeSpec := { name := "fnDispatch", fn := fun _ => fun
  | [d1, d2] => { results := [.lit (.bool false)], args := [d1, d2] }
  | _ => none }
def FnDispatchWrongFalsely : Prop := fnDispatchRow.holds Tryd.pinned (OpenSpec.ofChange fnDispatchWrong)

/-- 'laws.FnRampRange': WHATEVER THE INPUT: true; the input reads as it did. -/
def fnRampRangeSpec : ChangeSpec := { name := "fnRampRange", fn := fun _ => fun
  | [d] => { results := [.lit (.bool true)], args := [d] }
  | _ => none }
def fnRampRangeRow : OpenClaim := { program := "ytcpopbkcphpdfaadoor", sum := "5ad898d9984a23ef0f7a7d5f44e602b5eed8c956f318411e488dee0e044e5e8b", func := "loop.example/powercontrol/laws.FnRampRange", spec := "fnRampRange", inPlace := ["internal/abi.NoEscape"], unfollowed := true, recurses := true, named := ["internal/strconv.uint64pow10", "math/bits.deBruijn32tab", "math/bits.deBruijn64tab"], apart := false, laid := [("math/bits.deBruijn32tab", laid_math_bits_deBruijn32tab), ("math/bits.deBruijn64tab", laid_math_bits_deBruijn64tab), ("internal/strconv.uint64pow10", laid_internal_strconv_uint64pow10)] }
def FnRampRangeSaid : Prop := fnRampRangeRow.holds Tryd.pinned (OpenSpec.ofChange fnRampRangeSpec)

/-- ITS FALSE NEIGHBOUR: 'it returns false'. Refute it at one input. -/
def fnRampRangeWrong : ChangeSpec := { name := "fnRampRange", fn := fun _ => fun
  | [d] => { results := [.lit (.bool false)], args := [d] }
  | _ => none }
def FnRampRangeWrongFalsely : Prop := fnRampRangeRow.holds Tryd.pinned (OpenSpec.ofChange fnRampRangeWrong)

/-- 'laws.FnCommitCost': WHATEVER THE INPUT: true; the input reads as it did. -/
def fnCommitCostSpec : ChangeSpec := { name := "fnCommitCost", fn := fun _ => fun
  | [d] => { results := [.lit (.bool true)], args := [d] }
  | _ => none }
def fnCommitCostRow : OpenClaim := { program := "ytcpopbkcphpdfaadoor", sum := "5ad898d9984a23ef0f7a7d5f44e602b5eed8c956f318411e488dee0e044e5e8b", func := "loop.example/powercontrol/laws.FnCommitCost", spec := "fnCommitCost", inPlace := ["internal/abi.NoEscape"], unfollowed := true, recurses := true, named := ["internal/strconv.uint64pow10", "math/bits.deBruijn32tab", "math/bits.deBruijn64tab"], apart := false, laid := [("math/bits.deBruijn32tab", laid_math_bits_deBruijn32tab), ("math/bits.deBruijn64tab", laid_math_bits_deBruijn64tab), ("internal/strconv.uint64pow10", laid_internal_strconv_uint64pow10)] }
def FnCommitCostSaid : Prop := fnCommitCostRow.holds Tryd.pinned (OpenSpec.ofChange fnCommitCostSpec)

/-- ITS FALSE NEIGHBOUR: 'it returns false'. Refute it at one input. -/
def fnCommitCostWrong : ChangeSpec := { name := "fnCommitCost", fn := fun _ => fun
  | [d] => { results := [.lit (.bool false)], args := [d] }
  | _ => none }
def FnCommitCostWrongFalsely : Prop := fnCommitCostRow.holds Tryd.pinned (OpenSpec.ofChange fnCommitCostWrong)

/-- 'laws.FnSpareOf': WHATEVER THE INPUT: true; the input reads as it did. -/
def fnSpareOfSpec : ChangeSpec := { name := "fnSpareOf", fn := fun _ => fun
  | [d] => { results := [.lit (.bool true)], args := [d] }
  | _ => none }
def fnSpareOfRow : OpenClaim := { program := "ytcpopbkcphpdfaadoor", sum := "5ad898d9984a23ef0f7a7d5f44e602b5eed8c956f318411e488dee0e044e5e8b", func := "loop.example/powercontrol/laws.FnSpareOf", spec := "fnSpareOf", inPlace := ["internal/abi.NoEscape"], unfollowed := true, recurses := true, named := ["internal/strconv.uint64pow10", "math/bits.deBruijn32tab", "math/bits.deBruijn64tab"], apart := false, laid := [("math/bits.deBruijn32tab", laid_math_bits_deBruijn32tab), ("math/bits.deBruijn64tab", laid_math_bits_deBruijn64tab), ("internal/strconv.uint64pow10", laid_internal_strconv_uint64pow10)] }
def FnSpareOfSaid : Prop := fnSpareOfRow.holds Tryd.pinned (OpenSpec.ofChange fnSpareOfSpec)

/-- ITS FALSE NEIGHBOUR: 'it returns false'. Refute it at one input. -/
def fnSpareOfWrong : ChangeSpec := { name := "fnSpareOf", fn := fun _ => fun
  | [d] => { results := [.lit (.bool false)], args := [d] }
  | _ => none }
def FnSpareOfWrongFalsely : Prop := fnSpareOfRow.holds Tryd.pinned (OpenSpec.ofChange fnSpareOfWrong)

/-- 'laws.FnRampNext': WHATEVER THE INPUT: true; the input reads as it did. -/
def fnRampNextSpec : ChangeSpec := { name := "fnRampNext", fn := fun _ => fun
  | [d] => { results := [.lit (.bool true)], args := [d] }
  | _ => none }
def fnRampNextRow : OpenClaim := { program := "ytcpopbkcphpdfaadoor", sum := "5ad898d9984a23ef0f7a7d5f44e602b5eed8c956f318411e488dee0e044e5e8b", func := "loop.example/powercontrol/laws.FnRampNext", spec := "fnRampNext", inPlace := ["internal/abi.NoEscape"], unfollowed := true, recurses := true, named := ["internal/strconv.uint64pow10", "math/bits.deBruijn32tab", "math/bits.deBruijn64tab"], apart := false, laid := [("math/bits.deBruijn32tab", laid_math_bits_deBruijn32tab), ("math/bits.deBruijn64tab", laid_math_bits_deBruijn64tab), ("internal/strconv.uint64pow10", laid_internal_strconv_uint64pow10)] }
def FnRampNextSaid : Prop := fnRampNextRow.holds Tryd.pinned (OpenSpec.ofChange fnRampNextSpec)

/-- ITS FALSE NEIGHBOUR: 'it returns false'. Refute it at one input. -/
def fnRampNextWrong : ChangeSpec := { name := "fnRampNext", fn := fun _ => fun
  | [d] => { results := [.lit (.bool false)], args := [d] }
  | _ => none }
def FnRampNextWrongFalsely : Prop := fnRampNextRow.holds Tryd.pinned (OpenSpec.ofChange fnRampNextWrong)

/-- 'laws.FnRampRun': WHATEVER THE INPUT: true; the input reads as it did. -/
def fnRampRunSpec : ChangeSpec := { name := "fnRampRun", fn := fun _ => fun
  | [d] => { results := [.lit (.bool true)], args := [d] }
  | _ => none }
def fnRampRunRow : OpenClaim := { program := "ytcpopbkcphpdfaadoor", sum := "5ad898d9984a23ef0f7a7d5f44e602b5eed8c956f318411e488dee0e044e5e8b", func := "loop.example/powercontrol/laws.FnRampRun", spec := "fnRampRun", inPlace := ["internal/abi.NoEscape"], unfollowed := true, recurses := true, named := ["internal/strconv.uint64pow10", "math/bits.deBruijn32tab", "math/bits.deBruijn64tab"], apart := false, laid := [("math/bits.deBruijn32tab", laid_math_bits_deBruijn32tab), ("math/bits.deBruijn64tab", laid_math_bits_deBruijn64tab), ("internal/strconv.uint64pow10", laid_internal_strconv_uint64pow10)] }
def FnRampRunSaid : Prop := fnRampRunRow.holds Tryd.pinned (OpenSpec.ofChange fnRampRunSpec)

/-- ITS FALSE NEIGHBOUR: 'it returns false'. Refute it at one input. -/
def fnRampRunWrong : ChangeSpec := { name := "fnRampRun", fn := fun _ => fun
  | [d] => { results := [.lit (.bool false)], args := [d] }
  | _ => none }
def FnRampRunWrongFalsely : Prop := fnRampRunRow.holds Tryd.pinned (OpenSpec.ofChange fnRampRunWrong)

/-- 'laws.FnCommit': WHATEVER THE INPUT: true; the input reads as it did. -/
def fnCommitSpec : ChangeSpec := { name := "fnCommit", fn := fun _ => fun
  | [d] => { results := [.lit (.bool true)], args := [d] }
  | _ => none }
def fnCommitRow : OpenClaim := { program := "ytcpopbkcphpdfaadoor", sum := "5ad898d9984a23ef0f7a7d5f44e602b5eed8c956f318411e488dee0e044e5e8b", func := "loop.example/powercontrol/laws.FnCommit", spec := "fnCommit", inPlace := ["internal/abi.NoEscape"], unfollowed := true, recurses := true, named := ["internal/strconv.uint64pow10", "math/bits.deBruijn32tab", "math/bits.deBruijn64tab"], apart := false, laid := [("math/bits.deBruijn32tab", laid_math_bits_deBruijn32tab), ("math/bits.deBruijn64tab", laid_math_bits_deBruijn64tab), ("internal/strconv.uint64pow10", laid_internal_strconv_uint64pow10)] }
def FnCommitSaid : Prop := fnCommitRow.holds Tryd.pinned (OpenSpec.ofChange fnCommitSpec)

/-- ITS FALSE NEIGHBOUR: 'it returns false'. Refute it at one input. -/
def fnCommitWrong : ChangeSpec := { name := "fnCommit", fn := fun _ => fun
  | [d] => { results := [.lit (.bool false)], args := [d] }
  | _ => none }
def FnCommitWrongFalsely : Prop := fnCommitRow.holds Tryd.pinned (OpenSpec.ofChange fnCommitWrong)

/- THE SECOND FORM. 'bulk': how many values and letters a reading holds, each counted each time it is reached (what is shared counts as often as it is met; a slice's spare places count too). A statement '..UptoSaid' is the law's where the arguments, and the package variables that the reading takes, are together of bulk at most 1048576: NARROWER than '..Said'. Prove '..Said' where nothing that the law and all that it calls make is longer than what came in: it says more and counts as full. Else prove '..UptoSaid'. A law counts once. -/
mutual
def uptoBulk {H : Type} : DataW H → Nat
  | .lit (.string bytes) => bytes.length + 1
  | .lit _ => 1
  | .nil => 1
  | .ptr d => uptoBulk d + 1
  | .slice elems spare => uptoBulkAll elems + uptoBulkAll spare + 1
  | .agg parts => uptoBulkAll parts + 1
  | .iface _ d => uptoBulk d + 1
  | .map entries => uptoBulkEntries entries + 1
  | .held _ => 1
def uptoBulkAll {H : Type} : List (DataW H) → Nat
  | [] => 0
  | d :: r => uptoBulk d + uptoBulkAll r
def uptoBulkEntries {H : Type} : List (Lit × DataW H) → Nat
  | [] => 0
  | x :: r => uptoBulkEntry x + uptoBulkEntries r
def uptoBulkEntry {H : Type} : Lit × DataW H → Nat
  | (.string bytes, d) => bytes.length + uptoBulk d + 1
  | (_, d) => uptoBulk d + 1
 end
def uptoSmall : (H : Type) → List (DataW H) → Bool := fun _ ds => decide (uptoBulkAll ds ≤ 1048576)
def OpenSpec.upto (s : _root_.Go.ChangeSpec) : _root_.Go.OpenSpec := { _root_.Go.OpenSpec.ofChange s with cond := some uptoSmall }

/-- 'laws.FnUnitsValid', WHERE WHAT IT READS IS OF BULK AT MOST 1048576: true; the input reads as it did. -/
def fnUnitsValidUptoRow : OpenClaim := { program := "ytcpopbkcphpdfaadoor", sum := "5ad898d9984a23ef0f7a7d5f44e602b5eed8c956f318411e488dee0e044e5e8b", func := "loop.example/powercontrol/laws.FnUnitsValid", spec := "fnUnitsValid", inPlace := ["internal/abi.NoEscape"], named := ["internal/strconv.uint64pow10", "math/bits.deBruijn32tab", "math/bits.deBruijn64tab"], apart := false, laid := [("math/bits.deBruijn32tab", laid_math_bits_deBruijn32tab), ("math/bits.deBruijn64tab", laid_math_bits_deBruijn64tab), ("internal/strconv.uint64pow10", laid_internal_strconv_uint64pow10)], narrowed := true }
def FnUnitsValidUptoSaid : Prop := fnUnitsValidUptoRow.holds Tryd.pinned (OpenSpec.upto fnUnitsValidSpec)

/-- 'laws.FnOutputsValid', WHERE WHAT IT READS IS OF BULK AT MOST 1048576: true; the input reads as it did. -/
def fnOutputsValidUptoRow : OpenClaim := { program := "ytcpopbkcphpdfaadoor", sum := "5ad898d9984a23ef0f7a7d5f44e602b5eed8c956f318411e488dee0e044e5e8b", func := "loop.example/powercontrol/laws.FnOutputsValid", spec := "fnOutputsValid", inPlace := ["internal/abi.NoEscape"], named := ["internal/strconv.uint64pow10", "math/bits.deBruijn32tab", "math/bits.deBruijn64tab"], apart := false, laid := [("math/bits.deBruijn32tab", laid_math_bits_deBruijn32tab), ("math/bits.deBruijn64tab", laid_math_bits_deBruijn64tab), ("internal/strconv.uint64pow10", laid_internal_strconv_uint64pow10)], narrowed := true }
def FnOutputsValidUptoSaid : Prop := fnOutputsValidUptoRow.holds Tryd.pinned (OpenSpec.upto fnOutputsValidSpec)

/-- 'laws.FnOutputCost', WHERE WHAT IT READS IS OF BULK AT MOST 1048576: true; the input reads as it did. -/
def fnOutputCostUptoRow : OpenClaim := { program := "ytcpopbkcphpdfaadoor", sum := "5ad898d9984a23ef0f7a7d5f44e602b5eed8c956f318411e488dee0e044e5e8b", func := "loop.example/powercontrol/laws.FnOutputCost", spec := "fnOutputCost", inPlace := ["internal/abi.NoEscape"], named := ["internal/strconv.uint64pow10", "math/bits.deBruijn32tab", "math/bits.deBruijn64tab"], apart := false, laid := [("math/bits.deBruijn32tab", laid_math_bits_deBruijn32tab), ("math/bits.deBruijn64tab", laid_math_bits_deBruijn64tab), ("internal/strconv.uint64pow10", laid_internal_strconv_uint64pow10)], narrowed := true }
def FnOutputCostUptoSaid : Prop := fnOutputCostUptoRow.holds Tryd.pinned (OpenSpec.upto fnOutputCostSpec)

/-- 'laws.FnRampUnits', WHERE WHAT IT READS IS OF BULK AT MOST 1048576: true; the input reads as it did. -/
def fnRampUnitsUptoRow : OpenClaim := { program := "ytcpopbkcphpdfaadoor", sum := "5ad898d9984a23ef0f7a7d5f44e602b5eed8c956f318411e488dee0e044e5e8b", func := "loop.example/powercontrol/laws.FnRampUnits", spec := "fnRampUnits", inPlace := ["internal/abi.NoEscape"], named := ["internal/strconv.uint64pow10", "math/bits.deBruijn32tab", "math/bits.deBruijn64tab"], apart := false, laid := [("math/bits.deBruijn32tab", laid_math_bits_deBruijn32tab), ("math/bits.deBruijn64tab", laid_math_bits_deBruijn64tab), ("internal/strconv.uint64pow10", laid_internal_strconv_uint64pow10)], narrowed := true }
def FnRampUnitsUptoSaid : Prop := fnRampUnitsUptoRow.holds Tryd.pinned (OpenSpec.upto fnRampUnitsSpec)

/-- 'laws.FnNextCost', WHERE WHAT IT READS IS OF BULK AT MOST 1048576: true; the input reads as it did. -/
def fnNextCostUptoRow : OpenClaim := { program := "ytcpopbkcphpdfaadoor", sum := "5ad898d9984a23ef0f7a7d5f44e602b5eed8c956f318411e488dee0e044e5e8b", func := "loop.example/powercontrol/laws.FnNextCost", spec := "fnNextCost", inPlace := ["internal/abi.NoEscape"], unfollowed := true, recurses := true, named := ["internal/strconv.uint64pow10", "math/bits.deBruijn32tab", "math/bits.deBruijn64tab"], apart := false, laid := [("math/bits.deBruijn32tab", laid_math_bits_deBruijn32tab), ("math/bits.deBruijn64tab", laid_math_bits_deBruijn64tab), ("internal/strconv.uint64pow10", laid_internal_strconv_uint64pow10)], narrowed := true }
def FnNextCostUptoSaid : Prop := fnNextCostUptoRow.holds Tryd.pinned (OpenSpec.upto fnNextCostSpec)

/-- 'laws.FnDispatch', WHERE WHAT IT READS IS OF BULK AT MOST 1048576: true; the input reads as it did. -/
def fnDispatchUptoRow : OpenClaim := { program := "ytcpopbkcphpdfaadoor", sum := "5ad898d9984a23ef0f7a7d5f44e602b5eed8c956f318411e488dee0e044e5e8b", func := "loop.example/powercontrol/laws.FnDispatch", spec := "fnDispatch", inPlace := ["internal/abi.NoEscape"], unfollowed := true, recurses := true, named := ["internal/strconv.uint64pow10", "math/bits.deBruijn32tab", "math/bits.deBruijn64tab"], apart := false, laid := [("math/bits.deBruijn32tab", laid_math_bits_deBruijn32tab), ("math/bits.deBruijn64tab", laid_math_bits_deBruijn64tab), ("internal/strconv.uint64pow10", laid_internal_strconv_uint64pow10)], narrowed := true }
def FnDispatchUptoSaid : Prop := fnDispatchUptoRow.holds Tryd.pinned (OpenSpec.upto fnDispatchSpec)

/-- 'laws.FnRampRange', WHERE WHAT IT READS IS OF BULK AT MOST 1048576: true; the input reads as it did. -/
def fnRampRangeUptoRow : OpenClaim := { program := "ytcpopbkcphpdfaadoor", sum := "5ad898d9984a23ef0f7a7d5f44e602b5eed8c956f318411e488dee0e044e5e8b", func := "loop.example/powercontrol/laws.FnRampRange", spec := "fnRampRange", inPlace := ["internal/abi.NoEscape"], unfollowed := true, recurses := true, named := ["internal/strconv.uint64pow10", "math/bits.deBruijn32tab", "math/bits.deBruijn64tab"], apart := false, laid := [("math/bits.deBruijn32tab", laid_math_bits_deBruijn32tab), ("math/bits.deBruijn64tab", laid_math_bits_deBruijn64tab), ("internal/strconv.uint64pow10", laid_internal_strconv_uint64pow10)], narrowed := true }
def FnRampRangeUptoSaid : Prop := fnRampRangeUptoRow.holds Tryd.pinned (OpenSpec.upto fnRampRangeSpec)

/-- 'laws.FnCommitCost', WHERE WHAT IT READS IS OF BULK AT MOST 1048576: true; the input reads as it did. -/
def fnCommitCostUptoRow : OpenClaim := { program := "ytcpopbkcphpdfaadoor", sum := "5ad898d9984a23ef0f7a7d5f44e602b5eed8c956f318411e488dee0e044e5e8b", func := "loop.example/powercontrol/laws.FnCommitCost", spec := "fnCommitCost", inPlace := ["internal/abi.NoEscape"], unfollowed := true, recurses := true, named := ["internal/strconv.uint64pow10", "math/bits.deBruijn32tab", "math/bits.deBruijn64tab"], apart := false, laid := [("math/bits.deBruijn32tab", laid_math_bits_deBruijn32tab), ("math/bits.deBruijn64tab", laid_math_bits_deBruijn64tab), ("internal/strconv.uint64pow10", laid_internal_strconv_uint64pow10)], narrowed := true }
def FnCommitCostUptoSaid : Prop := fnCommitCostUptoRow.holds Tryd.pinned (OpenSpec.upto fnCommitCostSpec)

/-- 'laws.FnSpareOf', WHERE WHAT IT READS IS OF BULK AT MOST 1048576: true; the input reads as it did. -/
def fnSpareOfUptoRow : OpenClaim := { program := "ytcpopbkcphpdfaadoor", sum := "5ad898d9984a23ef0f7a7d5f44e602b5eed8c956f318411e488dee0e044e5e8b", func := "loop.example/powercontrol/laws.FnSpareOf", spec := "fnSpareOf", inPlace := ["internal/abi.NoEscape"], unfollowed := true, recurses := true, named := ["internal/strconv.uint64pow10", "math/bits.deBruijn32tab", "math/bits.deBruijn64tab"], apart := false, laid := [("math/bits.deBruijn32tab", laid_math_bits_deBruijn32tab), ("math/bits.deBruijn64tab", laid_math_bits_deBruijn64tab), ("internal/strconv.uint64pow10", laid_internal_strconv_uint64pow10)], narrowed := true }
def FnSpareOfUptoSaid : Prop := fnSpareOfUptoRow.holds Tryd.pinned (OpenSpec.upto fnSpareOfSpec)

/-- 'laws.FnRampNext', WHERE WHAT IT READS IS OF BULK AT MOST 1048576: true; the input reads as it did. -/
def fnRampNextUptoRow : OpenClaim := { program := "ytcpopbkcphpdfaadoor", sum := "5ad898d9984a23ef0f7a7d5f44e602b5eed8c956f318411e488dee0e044e5e8b", func := "loop.example/powercontrol/laws.FnRampNext", spec := "fnRampNext", inPlace := ["internal/abi.NoEscape"], unfollowed := true, recurses := true, named := ["internal/strconv.uint64pow10", "math/bits.deBruijn32tab", "math/bits.deBruijn64tab"], apart := false, laid := [("math/bits.deBruijn32tab", laid_math_bits_deBruijn32tab), ("math/bits.deBruijn64tab", laid_math_bits_deBruijn64tab), ("internal/strconv.uint64pow10", laid_internal_strconv_uint64pow10)], narrowed := true }
def FnRampNextUptoSaid : Prop := fnRampNextUptoRow.holds Tryd.pinned (OpenSpec.upto fnRampNextSpec)

/-- 'laws.FnRampRun', WHERE WHAT IT READS IS OF BULK AT MOST 1048576: true; the input reads as it did. -/
def fnRampRunUptoRow : OpenClaim := { program := "ytcpopbkcphpdfaadoor", sum := "5ad898d9984a23ef0f7a7d5f44e602b5eed8c956f318411e488dee0e044e5e8b", func := "loop.example/powercontrol/laws.FnRampRun", spec := "fnRampRun", inPlace := ["internal/abi.NoEscape"], unfollowed := true, recurses := true, named := ["internal/strconv.uint64pow10", "math/bits.deBruijn32tab", "math/bits.deBruijn64tab"], apart := false, laid := [("math/bits.deBruijn32tab", laid_math_bits_deBruijn32tab), ("math/bits.deBruijn64tab", laid_math_bits_deBruijn64tab), ("internal/strconv.uint64pow10", laid_internal_strconv_uint64pow10)], narrowed := true }
def FnRampRunUptoSaid : Prop := fnRampRunUptoRow.holds Tryd.pinned (OpenSpec.upto fnRampRunSpec)

/-- 'laws.FnCommit', WHERE WHAT IT READS IS OF BULK AT MOST 1048576: true; the input reads as it did. -/
def fnCommitUptoRow : OpenClaim := { program := "ytcpopbkcphpdfaadoor", sum := "5ad898d9984a23ef0f7a7d5f44e602b5eed8c956f318411e488dee0e044e5e8b", func := "loop.example/powercontrol/laws.FnCommit", spec := "fnCommit", inPlace := ["internal/abi.NoEscape"], unfollowed := true, recurses := true, named := ["internal/strconv.uint64pow10", "math/bits.deBruijn32tab", "math/bits.deBruijn64tab"], apart := false, laid := [("math/bits.deBruijn32tab", laid_math_bits_deBruijn32tab), ("math/bits.deBruijn64tab", laid_math_bits_deBruijn64tab), ("internal/strconv.uint64pow10", laid_internal_strconv_uint64pow10)], narrowed := true }
def FnCommitUptoSaid : Prop := fnCommitUptoRow.holds Tryd.pinned (OpenSpec.upto fnCommitSpec)

end Rows
end Go.Proofs.YtcpopbkcphpdfaaDoor
