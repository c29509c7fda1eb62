/- Bits of small numbers: plain words, and the functions that tell them. -/
import Derived.Test.YtecekhjlapaofaaDoorMk
import Derived.Test.YtecekhjlapaofaaDoorApp
import Derived.Test.YtecekhjlapaofaaDoorL1
import Derived.Laws.BitsAllLaws
import Derived.Laws.BitsLemmas
import Derived.Laws.ShiftsVarLaws
namespace Go.Proofs.YtecekhjlapaofaaDoor
open Go.RowKit Go.Deep
set_option linter.unusedSimpArgs false
set_option linter.unusedVariables false

def bitN (s k : Nat) : Bool := s / 2 ^ k % 2 == 1
def bitsL (s n : Nat) : List Bool := (List.range n).map (bitN s)
@[simp] theorem bitsL_len (s n : Nat) : (bitsL s n).length = n := by simp [bitsL]
def popN (s : Nat) : Nat := ((List.range 8).map fun k => s / 2 ^ k % 2).sum
theorem i64_and1 (a : Nat) (ha : a < 9223372036854775808) : bits .and .i64 (a : Int) 1 = ((a % 2 : Nat) : Int) := by
  show IntKind.i64.wrap ((BitVec.ofInt 64 (a : Int) &&& BitVec.ofInt 64 1).toNat : Int) = _
  have f1 : (BitVec.ofInt 64 (a : Int)).toNat = a := by rw [BitVec.ofInt_natCast, BitVec.toNat_ofNat]; exact Nat.mod_eq_of_lt (by omega)
  have f2 : (BitVec.ofInt 64 1).toNat = 1 := by decide
  rw [BitVec.toNat_and, f1, f2, nat_mask1]
  exact IntWalk.i64_in _ (by omega)
theorem onesCount_any (s : Nat) (hs : s < 256) (w : World) :
    Calls Tryd.prog 42 #[.int .u64 s] w fun e w' => e = .returned (.int .i64 (popN s)) ∧ w = w' := by
  have h64 : Calls Tryd.prog 58 #[.int .u64 s] w fun e w' => e = .returned (.int .i64 (popN s)) ∧ w = w' := by
    go_enter Tryd.func58, Tryd.ntmps58
    go_wp2
    go_ret
    refine ⟨congrArg (fun z => Ending.returned (Value.int .i64 z)) ?_, rfl⟩
    clear w
    revert hs
    revert s
    decide +kernel
  have H := Lib.hid h64; clear h64
  go_enter Tryd.func42, Tryd.ntmps42
  go_wp2_with (go_at_call 58; refine H.out.mono ?_; rintro e w' ⟨rfl, rfl⟩)
  go_ret
  exact ⟨rfl, rfl⟩
end Go.Proofs.YtecekhjlapaofaaDoor
