/- Three laws of the recloser: reset, step, ticks: the walks. -/
import Derived.Test.YtkibkmhmlkfhfaaRecC
namespace Go.Proofs.Ytkibkmhmlkfhfaa
open Go.RowKit
set_option linter.unusedSimpArgs false
set_option linter.unusedVariables false

theorem eqRecloser_any (a b c d : Int) (w : World) :
    Calls Try.prog 13 #[.agg #[.int .i64 a, .int .i64 b, .int .i64 c, .int .i64 d], .agg #[.int .i64 a, .int .i64 b, .int .i64 c, .int .i64 d]] w fun e w' => e = .returned (.bool true) ∧ Below w.heap.size w w' := by
  have e : ∀ x : Int, (x != x) = false := fun x => by simp
  go_enter Try.func13, Try.ntmps13
  go_wp2
  go_ret
  refine ⟨rfl, ?_⟩; (repeat' (first | (with_reducible exact Below.refl _ _) | (with_reducible refine Below.alloc ?_ ?_ _) | (with_reducible refine Below.setCell ?_ ?_ _) | (with_reducible refine Below.drew ?_) | (refine Below.trans ?_ (Below.mono (by with_reducible assumption) ?_)) | go_size))

theorem fnExactRecTicks_any (s sh wt g : Int) (w : World) (_ : I64 s) (_ : I64 sh) (h1 : I64 wt) (h2 : I64 g) :
    Calls Try.prog 5 #[.agg #[.int .i64 s, .int .i64 sh, .int .i64 wt, .int .i64 g]] w fun e w' => e = .returned (.bool true) ∧ Below w.heap.size w w' := by
  have H1 := Lib.hid h1; clear h1
  have H2 := Lib.hid h2; clear h2
  go_enter Try.func5, Try.ntmps5
  go_wp2_with (first | (go_at_call 9; refine (toRecloser_any _ _ _ _ _).mono ?_; rintro e w1 ⟨rfl, hb⟩; have cB0 := keepB hb (g := w.heap.size) (by go_size); have fB0 := keepF hb (g := w.heap.size) (by go_size); have zB0 := keepZ hb (g := w.heap.size) (by go_size); have hz := hb.size; (try simp only [World.size_alloc, World.size_setCell, World.size_drew] at hz)) | (go_at_call 14; refine (specRecTicks_any _ _ _ _ _ H2.out H1.out).mono ?_; rintro e w1 ⟨rfl, hb⟩; have cB0 := keepB hb (g := w.heap.size) (by go_size); have fB0 := keepF hb (g := w.heap.size) (by go_size); have zB0 := keepZ hb (g := w.heap.size) (by go_size); have hz := hb.size; (try simp only [World.size_alloc, World.size_setCell, World.size_drew] at hz)) | (go_at_call 15; refine (implRecTicks_any _ _ _ _ _).mono ?_; rintro e w1 ⟨rfl, hb⟩; have cB0 := keepB hb (g := w.heap.size) (by go_size); have fB0 := keepF hb (g := w.heap.size) (by go_size); have zB0 := keepZ hb (g := w.heap.size) (by go_size); have hz := hb.size; (try simp only [World.size_alloc, World.size_setCell, World.size_drew] at hz)))
  go_ret
  refine ⟨rfl, ?_⟩; (repeat' (first | (with_reducible exact Below.refl _ _) | (with_reducible refine Below.alloc ?_ ?_ _) | (with_reducible refine Below.setCell ?_ ?_ _) | (with_reducible refine Below.drew ?_) | (refine Below.trans ?_ (Below.mono (by with_reducible assumption) ?_)) | go_size))

theorem fnExactRecStep_any (s sh wt g : Int) (f : Bool) (w : World) (_ : I64 s) (_ : I64 sh) (h1 : I64 wt) (h2 : I64 g) :
    Calls Try.prog 6 #[.agg #[.int .i64 s, .int .i64 sh, .int .i64 wt, .int .i64 g], .bool f] w fun e w' => e = .returned (.bool true) ∧ Below w.heap.size w w' := by
  go_enter Try.func6, Try.ntmps6
  go_wp2_with fail; ((with_reducible refine (toRecloser_any _ _ _ _ _).mono ?_); rintro e w1 ⟨rfl, hb_1⟩); have cB0_1 := keepB hb_1 (g := w.heap.size) (by go_size); have fB0_1 := keepF hb_1 (g := w.heap.size) (by go_size); have zB0_1 := keepZ hb_1 (g := w.heap.size) (by go_size); have hz_1 := hb_1.size; (try simp only [World.size_alloc, World.size_setCell, World.size_drew] at hz_1)
  go_wp2_with fail; ((with_reducible refine (specRecStep_any _ _ _ _ _ _).mono ?_); rintro e w2 ⟨rfl, hb_2⟩); have cB0_2 := keepB hb_2 (g := w.heap.size) (by go_size); have fB0_2 := keepF hb_2 (g := w.heap.size) (by go_size); have zB0_2 := keepZ hb_2 (g := w.heap.size) (by go_size); have hz_2 := hb_2.size; (try simp only [World.size_alloc, World.size_setCell, World.size_drew] at hz_2)
  go_wp2_with fail; ((with_reducible refine (toRecloser_any _ _ _ _ _).mono ?_); rintro e w3 ⟨rfl, hb_3⟩); have cB0_3 := keepB hb_3 (g := w.heap.size) (by go_size); have fB0_3 := keepF hb_3 (g := w.heap.size) (by go_size); have zB0_3 := keepZ hb_3 (g := w.heap.size) (by go_size); have cB1_3 := keepB hb_3 (g := w2.heap.size) (by go_size); have fB1_3 := keepF hb_3 (g := w2.heap.size) (by go_size); have zB1_3 := keepZ hb_3 (g := w2.heap.size) (by go_size); have hz_3 := hb_3.size; (try simp only [World.size_alloc, World.size_setCell, World.size_drew] at hz_3)
  go_wp2_with fail; ((with_reducible refine (implRecStep_any _ _ _ _ _ _).mono ?_); rintro e w4 ⟨rfl, hb_4⟩); have cB0_4 := keepB hb_4 (g := w.heap.size) (by go_size); have fB0_4 := keepF hb_4 (g := w.heap.size) (by go_size); have zB0_4 := keepZ hb_4 (g := w.heap.size) (by go_size); have cB1_4 := keepB hb_4 (g := w2.heap.size) (by go_size); have fB1_4 := keepF hb_4 (g := w2.heap.size) (by go_size); have zB1_4 := keepZ hb_4 (g := w2.heap.size) (by go_size); have hz_4 := hb_4.size; (try simp only [World.size_alloc, World.size_setCell, World.size_drew] at hz_4)
  go_wp2_with fail; ((with_reducible refine (eqRecloser_any _ _ _ _ _).mono ?_); rintro e w5 ⟨rfl, hb_5⟩); have cB0_5 := keepB hb_5 (g := w.heap.size) (by go_size); have fB0_5 := keepF hb_5 (g := w.heap.size) (by go_size); have zB0_5 := keepZ hb_5 (g := w.heap.size) (by go_size); have cB1_5 := keepB hb_5 (g := w2.heap.size) (by go_size); have fB1_5 := keepF hb_5 (g := w2.heap.size) (by go_size); have zB1_5 := keepZ hb_5 (g := w2.heap.size) (by go_size); have hz_5 := hb_5.size; (try simp only [World.size_alloc, World.size_setCell, World.size_drew] at hz_5)
  go_wp2
  go_ret
  refine ⟨rfl, ?_⟩; (repeat' (first | (with_reducible exact Below.refl _ _) | (with_reducible refine Below.alloc ?_ ?_ _) | (with_reducible refine Below.setCell ?_ ?_ _) | (with_reducible refine Below.drew ?_) | (refine Below.trans ?_ (Below.mono (by with_reducible assumption) ?_)) | go_size))

theorem fnExactRecReset_any (s sh wt g : Int) (w : World) (_ : I64 s) (_ : I64 sh) (h1 : I64 wt) (h2 : I64 g) :
    Calls Try.prog 4 #[.agg #[.int .i64 s, .int .i64 sh, .int .i64 wt, .int .i64 g]] w fun e w' => e = .returned (.bool true) ∧ Below w.heap.size w w' := by
  go_enter Try.func4, Try.ntmps4
  go_wp2_with fail; ((with_reducible refine (toRecloser_any _ _ _ _ _).mono ?_); rintro e w1 ⟨rfl, hb_6⟩); have cB0_6 := keepB hb_6 (g := w.heap.size) (by go_size); have fB0_6 := keepF hb_6 (g := w.heap.size) (by go_size); have zB0_6 := keepZ hb_6 (g := w.heap.size) (by go_size); have hz_6 := hb_6.size; (try simp only [World.size_alloc, World.size_setCell, World.size_drew] at hz_6)
  go_wp2_with fail; ((with_reducible refine (specRecReset_any _ _ _ _ _).mono ?_); rintro e w2 ⟨rfl, hb_7⟩); have cB0_7 := keepB hb_7 (g := w.heap.size) (by go_size); have fB0_7 := keepF hb_7 (g := w.heap.size) (by go_size); have zB0_7 := keepZ hb_7 (g := w.heap.size) (by go_size); have hz_7 := hb_7.size; (try simp only [World.size_alloc, World.size_setCell, World.size_drew] at hz_7)
  go_wp2_with fail; ((with_reducible refine (toRecloser_any _ _ _ _ _).mono ?_); rintro e w3 ⟨rfl, hb_8⟩); have cB0_8 := keepB hb_8 (g := w.heap.size) (by go_size); have fB0_8 := keepF hb_8 (g := w.heap.size) (by go_size); have zB0_8 := keepZ hb_8 (g := w.heap.size) (by go_size); have cB1_8 := keepB hb_8 (g := w2.heap.size) (by go_size); have fB1_8 := keepF hb_8 (g := w2.heap.size) (by go_size); have zB1_8 := keepZ hb_8 (g := w2.heap.size) (by go_size); have hz_8 := hb_8.size; (try simp only [World.size_alloc, World.size_setCell, World.size_drew] at hz_8)
  go_wp2_with fail; ((with_reducible refine (implRecReset_any _ _ _ _ _).mono ?_); rintro e w4 ⟨rfl, hb_9⟩); have cB0_9 := keepB hb_9 (g := w.heap.size) (by go_size); have fB0_9 := keepF hb_9 (g := w.heap.size) (by go_size); have zB0_9 := keepZ hb_9 (g := w.heap.size) (by go_size); have cB1_9 := keepB hb_9 (g := w2.heap.size) (by go_size); have fB1_9 := keepF hb_9 (g := w2.heap.size) (by go_size); have zB1_9 := keepZ hb_9 (g := w2.heap.size) (by go_size); have hz_9 := hb_9.size; (try simp only [World.size_alloc, World.size_setCell, World.size_drew] at hz_9)
  go_wp2_with fail; ((with_reducible refine (eqRecloser_any _ _ _ _ _).mono ?_); rintro e w5 ⟨rfl, hb_10⟩); have cB0_10 := keepB hb_10 (g := w.heap.size) (by go_size); have fB0_10 := keepF hb_10 (g := w.heap.size) (by go_size); have zB0_10 := keepZ hb_10 (g := w.heap.size) (by go_size); have cB1_10 := keepB hb_10 (g := w2.heap.size) (by go_size); have fB1_10 := keepF hb_10 (g := w2.heap.size) (by go_size); have zB1_10 := keepZ hb_10 (g := w2.heap.size) (by go_size); have hz_10 := hb_10.size; (try simp only [World.size_alloc, World.size_setCell, World.size_drew] at hz_10)
  go_wp2
  go_ret
  refine ⟨rfl, ?_⟩; (repeat' (first | (with_reducible exact Below.refl _ _) | (with_reducible refine Below.alloc ?_ ?_ _) | (with_reducible refine Below.setCell ?_ ?_ _) | (with_reducible refine Below.drew ?_) | (refine Below.trans ?_ (Below.mono (by with_reducible assumption) ?_)) | go_size))
end Go.Proofs.Ytkibkmhmlkfhfaa
