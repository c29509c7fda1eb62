/- The reclosers' validity and steps: contracts of the program's and the reference's functions over plain values. -/
import Derived.Test.YtkibkmhmlkfhfaaProg
import Derived.Test.YtkibkmhmlkfhfaaBase
namespace Go.Proofs.Ytkibkmhmlkfhfaa
open Go.RowKit
set_option linter.unusedSimpArgs false
set_option linter.unusedVariables false

def inB (n lo hi : Int) : Bool := decide (lo ≤ n) && decide (n ≤ hi)
theorem inB_t {n lo hi : Int} (h1 : lo ≤ n) (h2 : n ≤ hi) : inB n lo hi = true := by simp [inB, h1, h2]
theorem inB_f1 {n lo hi : Int} (h1 : n < lo) : inB n lo hi = false := by simp only [inB, Bool.and_eq_false_iff, decide_eq_false_iff_not]; omega
theorem inB_f2 {n lo hi : Int} (h1 : hi < n) : inB n lo hi = false := by simp only [inB, Bool.and_eq_false_iff, decide_eq_false_iff_not]; omega

theorem l1In_any (n lo hi : Int) (w : World) :
    Calls Try.prog 22 #[.int .i64 n, .int .i64 lo, .int .i64 hi] w fun e w' => e = .returned (.bool (inB n lo hi)) ∧ w = w' := by
  go_enter Try.func22, Try.ntmps22
  go_wp2
  all_goals (go_ret; refine ⟨congrArg (fun b => Ending.returned (Value.bool b)) ?_, rfl⟩)
  all_goals (simp only [inB, ← Bool.decide_and]; first | (refine (decide_eq_true ?_).symm; omega) | (refine (decide_eq_false ?_).symm; omega) | (refine decide_eq_decide.2 ?_; omega))

def recV (s sh wt g : Int) : Bool :=
  decide ((s = 0 ∧ 0 ≤ sh ∧ sh ≤ 3 ∧ wt = 0 ∧ 0 ≤ g ∧ g ≤ 4 ∧ (0 < sh ∨ g = 0)) ∨ (s = 1 ∧ 0 ≤ sh ∧ sh ≤ 2 ∧ 1 ≤ wt ∧ wt ≤ 1 + 2 * sh ∧ g = 0) ∨ (s = 2 ∧ sh = 3 ∧ wt = 0 ∧ g = 0))

theorem specRecValid_any (s sh wt g : Int) (w : World) :
    Calls Try.prog 8 #[.agg #[.int .i64 s, .int .i64 sh, .int .i64 wt, .int .i64 g]] w fun e w' => e = .returned (.bool (recV s sh wt g)) ∧ Below w.heap.size w w' := by
  go_enter Try.func8, Try.ntmps8
  go_wp2_with (go_at_call 22; refine (l1In_any _ _ _ _).mono ?_; rintro e w' ⟨rfl, rfl⟩)
  all_goals (go_ret; refine ⟨congrArg (fun b => Ending.returned (Value.bool b)) ?_, (Below.refl _ _).alloc (Nat.le_refl _) _⟩)
  all_goals (simp only [recV, inB, wrap64, beqd, ← Bool.decide_and, decide_eq_true_eq, decide_eq_false_iff_not, true_and, and_true, true_or] at *; first | (refine (decide_eq_true ?_).symm; omega) | (refine (decide_eq_false ?_).symm; omega) | (refine decide_eq_decide.2 ?_; omega))

theorem implRecValid_any (s sh wt g : Int) (w : World) :
    Calls Try.prog 10 #[.agg #[.int .i64 s, .int .i64 sh, .int .i64 wt, .int .i64 g]] w fun e w' => e = .returned (.bool (recV s sh wt g)) ∧ Below w.heap.size w w' := by
  go_enter Try.func10, Try.ntmps10
  go_wp2
  all_goals (go_ret; refine ⟨congrArg (fun b => Ending.returned (Value.bool b)) ?_, (Below.refl _ _).alloc (Nat.le_refl _) _⟩)
  all_goals (simp only [recV, inB, wrap64, beqd, ← Bool.decide_and, decide_eq_true_eq, decide_eq_false_iff_not, true_and, and_true, true_or] at *; first | (refine (decide_eq_true ?_).symm; omega) | (refine (decide_eq_false ?_).symm; omega) | (refine decide_eq_decide.2 ?_; omega))

theorem toRecloser_any (s sh wt g : Int) (w : World) :
    Calls Try.prog 9 #[.agg #[.int .i64 s, .int .i64 sh, .int .i64 wt, .int .i64 g]] w fun e w' => e = .returned (.agg #[.int .i64 s, .int .i64 sh, .int .i64 wt, .int .i64 g]) ∧ Below w.heap.size w w' := by
  go_enter Try.func9, Try.ntmps9
  go_wp2
  refine bodyPost_ret (v := .agg #[.int .i64 s, .int .i64 sh, .int .i64 wt, .int .i64 g]) (by simp [results, Try.results9, go_sem]) rfl ⟨rfl, ?_⟩
  repeat (first | exact Below.refl _ _ | refine Below.alloc ?_ (by simp <;> omega) _)

theorem fnExactRecValid_any (s sh wt g : Int) (w : World) (_ : I64 s) (_ : I64 sh) (_ : I64 wt) (_ : I64 g) :
    Calls Try.prog 3 #[.agg #[.int .i64 s, .int .i64 sh, .int .i64 wt, .int .i64 g]] w fun e w' => e = .returned (.bool true) ∧ Below w.heap.size w w' := by
  go_enter Try.func3, Try.ntmps3
  go_wp2_with (first | (go_at_call 9; refine (toRecloser_any _ _ _ _ _).mono ?_; rintro e w1 ⟨rfl, hb⟩; have cB0 := keepB hb (g := w.heap.size) (by go_size); have fB0 := keepF hb (g := w.heap.size) (by go_size); have zB0 := keepZ hb (g := w.heap.size) (by go_size); have hz := hb.size; (try simp only [World.size_alloc, World.size_setCell, World.size_drew] at hz)) | (go_at_call 8; refine (specRecValid_any _ _ _ _ _).mono ?_; rintro e w1 ⟨rfl, hb⟩; have cB0 := keepB hb (g := w.heap.size) (by go_size); have fB0 := keepF hb (g := w.heap.size) (by go_size); have zB0 := keepZ hb (g := w.heap.size) (by go_size); have hz := hb.size; (try simp only [World.size_alloc, World.size_setCell, World.size_drew] at hz)) | (go_at_call 10; refine (implRecValid_any _ _ _ _ _).mono ?_; rintro e w1 ⟨rfl, hb⟩; have cB0 := keepB hb (g := w.heap.size) (by go_size); have fB0 := keepF hb (g := w.heap.size) (by go_size); have zB0 := keepZ hb (g := w.heap.size) (by go_size); have hz := hb.size; (try simp only [World.size_alloc, World.size_setCell, World.size_drew] at hz)))
  go_ret
  exact ⟨rfl, by (repeat' (first | (with_reducible exact Below.refl _ _) | (with_reducible refine Below.alloc ?_ ?_ _) | (with_reducible refine Below.setCell ?_ ?_ _) | (with_reducible refine Below.drew ?_) | (refine Below.trans ?_ (Below.mono (by with_reducible assumption) ?_)) | go_size))⟩
end Go.Proofs.Ytkibkmhmlkfhfaa
