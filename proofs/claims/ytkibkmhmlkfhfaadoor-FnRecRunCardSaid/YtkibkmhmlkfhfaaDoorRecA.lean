/- The reclosers' validity and steps: contracts of the program's and the reference's functions over plain values. -/
import Derived.Test.YtkibkmhmlkfhfaaDoorProg
import Derived.Test.YtkibkmhmlkfhfaaDoorBase
namespace Go.Proofs.YtkibkmhmlkfhfaaDoor
open Go.RowKit
set_option linter.unusedSimpArgs false
set_option linter.unusedVariables false

def inB (n lo hi : Int) : Bool := decide (lo ≤ n) && decide (n ≤ hi)
theorem inB_t {n lo hi : Int} (h1 : lo ≤ n) (h2 : n ≤ hi) : inB n lo hi = true := by simp [inB, h1, h2]
theorem inB_f1 {n lo hi : Int} (h1 : n < lo) : inB n lo hi = false := by simp only [inB, Bool.and_eq_false_iff, decide_eq_false_iff_not]; omega
theorem inB_f2 {n lo hi : Int} (h1 : hi < n) : inB n lo hi = false := by simp only [inB, Bool.and_eq_false_iff, decide_eq_false_iff_not]; omega

theorem l1In_any (n lo hi : Int) (w : World) :
    Calls Tryd.prog 26 #[.int .i64 n, .int .i64 lo, .int .i64 hi] w fun e w' => e = .returned (.bool (inB n lo hi)) ∧ w = w' := by
  go_enter Tryd.func26, Tryd.ntmps26
  go_wp2
  all_goals (go_ret; refine ⟨congrArg (fun b => Ending.returned (Value.bool b)) ?_, rfl⟩)
  all_goals (simp only [inB, ← Bool.decide_and]; first | (refine (decide_eq_true ?_).symm; omega) | (refine (decide_eq_false ?_).symm; omega) | (refine decide_eq_decide.2 ?_; omega))

def recV (s sh wt g : Int) : Bool :=
  decide ((s = 0 ∧ 0 ≤ sh ∧ sh ≤ 3 ∧ wt = 0 ∧ 0 ≤ g ∧ g ≤ 4 ∧ (0 < sh ∨ g = 0)) ∨ (s = 1 ∧ 0 ≤ sh ∧ sh ≤ 2 ∧ 1 ≤ wt ∧ wt ≤ 1 + 2 * sh ∧ g = 0) ∨ (s = 2 ∧ sh = 3 ∧ wt = 0 ∧ g = 0))

theorem specRecValid_any (s sh wt g : Int) (w : World) :
    Calls Tryd.prog 10 #[.agg #[.int .i64 s, .int .i64 sh, .int .i64 wt, .int .i64 g]] w fun e w' => e = .returned (.bool (recV s sh wt g)) ∧ Below w.heap.size w w' := by
  go_enter Tryd.func10, Tryd.ntmps10
  go_wp2_with (go_at_call 26; refine (l1In_any _ _ _ _).mono ?_; rintro e w' ⟨rfl, rfl⟩)
  all_goals (go_ret; refine ⟨congrArg (fun b => Ending.returned (Value.bool b)) ?_, (Below.refl _ _).alloc (Nat.le_refl _) _⟩)
  all_goals (simp only [recV, inB, wrap64, beqd, ← Bool.decide_and, decide_eq_true_eq, decide_eq_false_iff_not, true_and, and_true, true_or] at *; first | (refine (decide_eq_true ?_).symm; omega) | (refine (decide_eq_false ?_).symm; omega) | (refine decide_eq_decide.2 ?_; omega))

theorem implRecValid_any (s sh wt g : Int) (w : World) :
    Calls Tryd.prog 9 #[.agg #[.int .i64 s, .int .i64 sh, .int .i64 wt, .int .i64 g]] w fun e w' => e = .returned (.bool (recV s sh wt g)) ∧ Below w.heap.size w w' := by
  go_enter Tryd.func9, Tryd.ntmps9
  go_wp2
  all_goals (go_ret; refine ⟨congrArg (fun b => Ending.returned (Value.bool b)) ?_, (Below.refl _ _).alloc (Nat.le_refl _) _⟩)
  all_goals (simp only [recV, inB, wrap64, beqd, ← Bool.decide_and, decide_eq_true_eq, decide_eq_false_iff_not, true_and, and_true, true_or] at *; first | (refine (decide_eq_true ?_).symm; omega) | (refine (decide_eq_false ?_).symm; omega) | (refine decide_eq_decide.2 ?_; omega))


end Go.Proofs.YtkibkmhmlkfhfaaDoor
