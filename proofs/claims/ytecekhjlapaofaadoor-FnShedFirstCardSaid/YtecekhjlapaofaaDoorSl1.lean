/- Slices of ints and of bools: copies, comparisons. -/
import Derived.Test.YtecekhjlapaofaaDoorProg
import Derived.Test.YtecekhjlapaofaaDoorSl
namespace Go.Proofs.YtecekhjlapaofaaDoor
open Go.RowKit Go.ChangeShapes Go.WideShapes Go.Deep
set_option linter.unusedSimpArgs false
set_option linter.unusedVariables false
theorem eqIntS_any (A B : Option Addr) (c d : Nat) (xs : List Int) (w : World) (hA : Reads 1 intC w w.heap.size A xs) (hB : Reads 1 intC w w.heap.size B xs) (hl : xs.length ≤ 1048576) :
    Calls Tryd.prog 20 #[.slice A xs.length c, .slice B xs.length d] w fun e w' => e = .returned (.bool true) ∧ Below w.heap.size w w' := by
  have HA := Lib.hid hA; clear hA
  have HB := Lib.hid hB; clear hB
  generalize hn : xs.length = n at hl ⊢
  have HN := Lib.hid hn; clear hn
  have hne : ((n : Int) != (n : Int)) = false := by simp
  go_enter Tryd.func20, Tryd.ntmps20
  go_wp2_with fail
  go_loopw [5] (fun t wr => ∃ i : Nat, t = .int .i64 i ∧ i ≤ n ∧ Hid (∃ m, wr = w.drewN m)) (fun t _ => n - (intOf t).toNat)
  case atStart => exact ⟨0, rfl, Nat.zero_le _, ⟨0, rfl⟩⟩
  case round =>
    obtain ⟨i, rfl, hi, HW⟩ := hrel
    obtain ⟨m, rfl⟩ := HW.out
    clear HW
    by_cases hlt : i < n
    · have hx : i < xs.length := by rw [HN.out]; exact hlt
      obtain ⟨b, off, rfl, _, hc⟩ := HA.out.at1 hx
      obtain ⟨b', off', rfl, _, hc'⟩ := HB.out.at1 hx
      have hc1 : w.cell? ⟨b, off + i, none⟩ = some (.int .i64 xs[i]) := hc
      have hc2 : w.cell? ⟨b', off' + i, none⟩ = some (.int .i64 xs[i]) := hc'
      clear hc hc'
      generalize xs[i] = x at hc1 hc2
      have hxx : (x != x) = false := by simp
      have hi1 : (i : Int) < (n : Int) := by omega
      have hi0 : (0 : Int) ≤ (i : Int) := by omega
      go_wp2_with fail
      go_quiet (fail)
      go_wp2_with fail
      go_roundw
      case rel => exact ⟨i + 1, by go_num, by omega, ⟨_, rfl⟩⟩
      case measure => simp [intOf]; omega
    · go_wp2
      go_ret
      exact ⟨rfl, below_drewN' (Below.refl _ _) _⟩
end Go.Proofs.YtecekhjlapaofaaDoor
