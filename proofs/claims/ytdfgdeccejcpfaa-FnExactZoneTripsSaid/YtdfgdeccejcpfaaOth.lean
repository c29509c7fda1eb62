/- The other end of a line, as the program asks it. -/
import Derived.Test.YtdfgdeccejcpfaaNetA
namespace Go.Proofs.Ytdfgdeccejcpfaa
open Go.RowKit Go.Deep
set_option linter.unusedSimpArgs false
set_option linter.unusedVariables false

def otherOf (x : R3) (b : Int) : Int := if b = x.a then x.b else if b = x.b then x.a else -1
theorem other_any (x0 x1 x2 b : Int) (w : World) :
    Calls Try.prog 75 #[.agg #[.int .i64 x0, .int .i64 x1, .int .i64 x2], .int .i64 b] w fun e w' => e = .returned (.int .i64 (otherOf ⟨x0, x1, x2⟩ b)) ∧ Below w.heap.size w w' := by
  unfold otherOf
  by_cases h1 : b = x0
  · have e1 : (b == x0) = true := by simp [h1]
    rw [if_pos h1]
    clear h1
    go_enter Try.func75, Try.ntmps75
    go_wp2
    go_ret
    refine ⟨rfl, ?_⟩; (repeat' (first | (with_reducible exact Below.refl _ _) | (with_reducible refine Below.alloc ?_ ?_ _) | (with_reducible refine Below.setCell ?_ ?_ _) | (with_reducible refine Below.drew ?_) | (refine Below.trans ?_ (Below.mono (by with_reducible assumption) ?_)) | go_size))
  · have e1 : (b == x0) = false := by simp [h1]
    rw [if_neg h1]
    clear h1
    by_cases h2 : b = x1
    · have e2 : (b == x1) = true := by simp [h2]
      rw [if_pos h2]
      clear h2
      go_enter Try.func75, Try.ntmps75
      go_wp2
      go_ret
      refine ⟨rfl, ?_⟩; (repeat' (first | (with_reducible exact Below.refl _ _) | (with_reducible refine Below.alloc ?_ ?_ _) | (with_reducible refine Below.setCell ?_ ?_ _) | (with_reducible refine Below.drew ?_) | (refine Below.trans ?_ (Below.mono (by with_reducible assumption) ?_)) | go_size))
    · have e2 : (b == x1) = false := by simp [h2]
      rw [if_neg h2]
      clear h2
      go_enter Try.func75, Try.ntmps75
      go_wp2
      go_ret
      refine ⟨rfl, ?_⟩; (repeat' (first | (with_reducible exact Below.refl _ _) | (with_reducible refine Below.alloc ?_ ?_ _) | (with_reducible refine Below.setCell ?_ ?_ _) | (with_reducible refine Below.drew ?_) | (refine Below.trans ?_ (Below.mono (by with_reducible assumption) ?_)) | go_size))
end Go.Proofs.Ytdfgdeccejcpfaa
