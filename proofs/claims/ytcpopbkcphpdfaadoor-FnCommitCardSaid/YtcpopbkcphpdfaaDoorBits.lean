/- Bits of small numbers: plain words, and the functions that tell them. -/
import Derived.Test.YtcpopbkcphpdfaaDoorMk
import Derived.Test.YtcpopbkcphpdfaaDoorApp
import Derived.Test.YtcpopbkcphpdfaaDoorL1
import Derived.Laws.BitsAllLaws
import Derived.Laws.BitsLemmas
import Derived.Laws.ShiftsVarLaws
namespace Go.Proofs.YtcpopbkcphpdfaaDoor
open Go.RowKit Go.Deep
set_option linter.unusedSimpArgs false
set_option linter.unusedVariables false

def bitN (s k : Nat) : Bool := s / 2 ^ k % 2 == 1
def bitsL (s n : Nat) : List Bool := (List.range n).map (bitN s)
@[simp] theorem bitsL_len (s n : Nat) : (bitsL s n).length = n := by simp [bitsL]
def popN (s : Nat) : Nat := ((List.range 8).map fun k => s / 2 ^ k % 2).sum
theorem i64_and1 (a : Nat) (ha : a < 9223372036854775808) : bits .and .i64 (a : Int) 1 = ((a % 2 : Nat) : Int) := by
  show IntKind.i64.wrap ((BitVec.ofInt 64 (a : Int) &&& BitVec.ofInt 64 1).toNat : Int) = _
  have f1 : (BitVec.ofInt 64 (a : Int)).toNat = a := by rw [BitVec.ofInt_natCast, BitVec.toNat_ofNat]; exact Nat.mod_eq_of_lt (by omega)
  have f2 : (BitVec.ofInt 64 1).toNat = 1 := by decide
  rw [BitVec.toNat_and, f1, f2, nat_mask1]
  exact IntWalk.i64_in _ (by omega)
theorem onesCount_any (s : Nat) (hs : s < 256) (w : World) :
    Calls Tryd.prog 80 #[.int .u64 s] w fun e w' => e = .returned (.int .i64 (popN s)) ∧ w = w' := by
  have h64 : Calls Tryd.prog 91 #[.int .u64 s] w fun e w' => e = .returned (.int .i64 (popN s)) ∧ w = w' := by
    go_enter Tryd.func91, Tryd.ntmps91
    go_wp2
    go_ret
    refine ⟨congrArg (fun z => Ending.returned (Value.int .i64 z)) ?_, rfl⟩
    clear w
    revert hs
    revert s
    decide +kernel
  have H := Lib.hid h64; clear h64
  go_enter Tryd.func80, Tryd.ntmps80
  go_wp2_with (go_at_call 91; refine H.out.mono ?_; rintro e w' ⟨rfl, rfl⟩)
  go_ret
  exact ⟨rfl, rfl⟩
set_option maxHeartbeats 2000000 in
theorem stateOf_any (s n : Nat) (hs : s < 1024) (hn : n ≤ 10) (w : World) :
    Calls Tryd.prog 79 #[.int .i64 s, .int .i64 n] w fun e w' => ∃ g c, e = .returned (.slice (some ⟨g, 0, none⟩) n c) ∧ Res 1 boolC 4 w' w.heap.size (.slice (some ⟨g, 0, none⟩) n c) (bitsL s n) ∧ Below w.heap.size w w' := by
  have hmk := fun W => run_mk (P := Tryd.prog) 50 4 (.bool false) 1 1 n Tryd.underlying50 (by kernel_rfl) (by omega) (by omega) W
  go_enter Tryd.func79, Tryd.ntmps79
  go_wp2_with fail
  go_loopw [11] (fun t wr => ∃ i : Nat, t = .int .i64 i ∧ i ≤ n ∧ Hid (wr.rowIs w.heap.size 4 n (fun j => if j < i then boolC (bitN s j) 0 else .bool false)) ∧ Hid (Below w.heap.size w wr)) (fun t _ => n - (intOf t).toNat)
  case atStart =>
    refine ⟨0, rfl, Nat.zero_le _, ?_, ?_⟩
    · unfold Hid
      have h := World.rowIs_made w (.bool false) n 4
      try simp only [Nat.mul_one]
      exact h.congr (fun i _ => by simp)
    · unfold Hid; (repeat' (first | (with_reducible exact Below.refl _ _) | (with_reducible refine Below.alloc ?_ ?_ _) | (with_reducible refine Below.setCell ?_ ?_ _) | (with_reducible refine Below.drew ?_) | (refine Below.trans ?_ (Below.mono (by with_reducible assumption) ?_)) | go_size))
  case round =>
    obtain ⟨i, rfl, hi, HRow, HB⟩ := hrel
    clear hmk
    by_cases hlt : i < n
    · have hc2 := HRow.out.cell hlt
      have hf2 := HRow.out.frozen i
      simp only [Nat.lt_irrefl, if_false] at hc2
      have hbt : (bits BinOp.and IntKind.i64 ((s : Int) / 2 ^ i) 1 == 1) = bitN s i := by
        have e : (s : Int) / 2 ^ i = ((s / 2 ^ i : Nat) : Int) := by push_cast; rfl
        rw [e, i64_and1 _ (Nat.lt_of_le_of_lt (Nat.div_le_self _ _) (by omega))]
        unfold bitN
        generalize s / 2 ^ i = q
        rcases Nat.mod_two_eq_zero_or_one q with h | h <;> simp [h]
      have HBT := Lib.hid hbt; clear hbt
      go_wp2
      refine ⟨⟨i + 1, by go_num, by omega, ?_, ?_⟩, by simp [intOf]; omega⟩
      · unfold Hid
        refine (HRow.out.set i _).congr (fun j hj => ?_)
        by_cases hji : j = i
        · subst hji; rw [if_pos rfl, if_pos (by omega), HBT.out]; rfl
        · rw [if_neg hji]
          by_cases hj2 : j < i
          · rw [if_pos hj2, if_pos (by omega)]
          · rw [if_neg hj2, if_neg (by omega)]
      · unfold Hid; exact HB.out.setCell (Nat.le_refl _) _
    · go_wp2
      go_ret
      refine ⟨_, _, rfl, Res.of_row (Nat.le_refl _) HRow.out (by simp) (by simp) (fun j x hx k hk => ?_), HB.out⟩
      obtain ⟨hj, e⟩ := getElem?_of_lt hx
      obtain rfl : k = 0 := by omega
      rw [bitsL_len] at hj
      rw [Nat.mul_one, Nat.add_zero, if_pos (by omega), ← e]
      simp [bitsL]
end Go.Proofs.YtcpopbkcphpdfaaDoor
