/- laws.szBlockS. -/
import Derived.Test.YtecekhjlapaofaaSlBlock
namespace Go.Proofs.Ytecekhjlapaofaa
open Go.RowKit Go.Deep
set_option linter.unusedSimpArgs false
set_option linter.unusedVariables false
theorem szBlockS_any (A : Option Addr) (n c : Nat) (l : Int) (w : World) (h : n ≤ 9223372036854775807) (h0 : 0 ≤ l) (h1 : l ≤ 1048576) :
    Calls Try.prog 6 #[.slice A n c, .int .i64 l] w fun e w' => e = .returned (.int .i64 (if (n : Int) ≤ l then l - n else -1)) ∧ w = w' := by
  by_cases hn : (n : Int) ≤ l
  · rw [if_pos hn]
    have h1 : ¬ (l - (n : Int)) < 0 := by omega
    go_enter Try.func6, Try.ntmps6
    go_wp2
    go_ret
    exact ⟨rfl, rfl⟩
  · rw [if_neg hn]
    have h1 : (l - (n : Int)) < 0 := by omega
    go_enter Try.func6, Try.ntmps6
    go_wp2
    go_ret
    exact ⟨rfl, rfl⟩
end Go.Proofs.Ytecekhjlapaofaa
