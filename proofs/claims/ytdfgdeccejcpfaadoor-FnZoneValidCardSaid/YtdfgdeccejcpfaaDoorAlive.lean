/- laws.alive returns true. -/
import Derived.Test.YtdfgdeccejcpfaaDoorOth
namespace Go.Proofs.YtdfgdeccejcpfaaDoor
open Go.RowKit Go.Deep
set_option linter.unusedSimpArgs false
set_option linter.unusedVariables false

theorem hasLine_any (B : Int) (A : Option Addr) (n c : Nat) (b : Int) (w : World) :
    Calls Tryd.prog 61 #[.agg #[.int .i64 B, .slice A n c], .int .i64 b] w fun e w' => e = .returned (.bool (hasB n b)) ∧ Below w.heap.size w w' := by
  go_enter Tryd.func61, Tryd.ntmps61
  go_wp2
  all_goals (go_ret; refine ⟨congrArg (fun b => Ending.returned (Value.bool b)) ?_, (Below.refl _ _).alloc (Nat.le_refl _) _⟩)
  all_goals (simp only [hasB] at *; first | (refine (decide_eq_true ?_).symm; omega) | (refine (decide_eq_false ?_).symm; omega) | (refine decide_eq_decide.2 ?_; omega))
theorem otherEnd_one (g : Nat) (w : World) (hk : Bk w g 58 #[.int .i64 0, .int .i64 1, .int .i64 1]) :
    Calls Tryd.prog 35 #[.agg #[.int .i64 2, .slice (some ⟨g, 0, none⟩) 1 1], .int .i64 0, .int .i64 0] w fun e w' => e = .returned (.int .i64 1) ∧ Below w.heap.size w w' := by
  have hR : Reads 3 r3C w w.heap.size (some ⟨g, 0, none⟩) [⟨0, 1, 1⟩] := by
    refine .inr ⟨g, 0, rfl, hk.lt, fun i x hx j hj => ?_⟩
    obtain ⟨hi, e⟩ := getElem?_of_lt hx
    simp at hi
    subst hi
    simp at e
    subst e
    rcases j with _ | _ | _ | j
    · simpa [r3C] using hk.cell 0
    · simpa [r3C] using hk.cell 1
    · simpa [r3C] using hk.cell 2
    · omega
  have hv : netV 2 [⟨0, 1, 1⟩] = true := by rw [netV_t]; unfold NetP LineOk; simp
  have hb1 : hasB (1 : Int) 0 = true := by rw [hasB_t]; omega
  have ho : otherOf ⟨0, 1, 1⟩ 0 = 1 := by simp [otherOf]
  have hlt := hk.lt
  have hc := hk.cell
  have HK := Lib.hid hk; clear hk
  have HR := Lib.hid hR; clear hR
  have HO := Lib.hid ho; clear ho
  go_enter Tryd.func35, Tryd.ntmps35
  go_wp2_with fail; ((with_reducible refine (implNetValid_n 2 (some ⟨g, 0, none⟩) 1 1 [⟨0, 1, 1⟩] _ rfl ((HR.out.below (Below.alloc (Below.refl w.heap.size w) (Nat.le_refl _) _) (Nat.le_refl _)).more (by simp)) (by simp)).mono ?_); rintro e w1 ⟨rfl, hb_1⟩); have cB0_1 := keepB hb_1 (g := w.heap.size) (by go_size); have fB0_1 := keepF hb_1 (g := w.heap.size) (by go_size); have zB0_1 := keepZ hb_1 (g := w.heap.size) (by go_size); have cB1_1 := keepB hb_1 (g := g) (by go_size); have fB1_1 := keepF hb_1 (g := g) (by go_size); have zB1_1 := keepZ hb_1 (g := g) (by go_size); have hz_1 := hb_1.size; (try simp only [World.size_alloc, World.size_setCell, World.size_drew] at hz_1)
  go_wp2_with fail; ((with_reducible refine (hasLine_any _ _ _ _ _ _).mono ?_); rintro e w2 ⟨rfl, hb_2⟩); have cB0_2 := keepB hb_2 (g := w.heap.size) (by go_size); have fB0_2 := keepF hb_2 (g := w.heap.size) (by go_size); have zB0_2 := keepZ hb_2 (g := w.heap.size) (by go_size); have cB1_2 := keepB hb_2 (g := g) (by go_size); have fB1_2 := keepF hb_2 (g := g) (by go_size); have zB1_2 := keepZ hb_2 (g := g) (by go_size); have hz_2 := hb_2.size; (try simp only [World.size_alloc, World.size_setCell, World.size_drew] at hz_2)
  go_wp2_with fail; ((with_reducible refine (other_any _ _ _ _ _).mono ?_); rintro e w3 ⟨rfl, hb_3⟩); have hz_3 := hb_3.size; (try simp only [World.size_alloc, World.size_setCell, World.size_drew] at hz_3)
  rw [HO.out]
  go_wp2
  go_ret
  refine ⟨rfl, ?_⟩; (repeat' (first | (with_reducible exact Below.refl _ _) | (with_reducible refine Below.alloc ?_ ?_ _) | (with_reducible refine Below.setCell ?_ ?_ _) | (with_reducible refine Below.drew ?_) | (refine Below.trans ?_ (Below.mono (by with_reducible assumption) ?_)) | go_size))
theorem netText_none (w : World) :
    Calls Tryd.prog 36 #[.agg #[.int .i64 0, .slice none 0 0]] w fun e w' => e = .returned (.string ⟨#[]⟩) ∧ Below w.heap.size w w' := by
  have hv : netV 0 [] = false := by rw [netV_f]; unfold NetP; omega
  go_enter Tryd.func36, Tryd.ntmps36
  go_wp2_with fail; ((with_reducible refine (implNetValid_n 0 none 0 0 [] _ rfl reads_nil (by simp)).mono ?_); rintro e w1 ⟨rfl, hb_4⟩); have hz_4 := hb_4.size; (try simp only [World.size_alloc, World.size_setCell, World.size_drew] at hz_4)
  go_wp2_with fail
  go_ret
  refine ⟨rfl, ?_⟩; (repeat' (first | (with_reducible exact Below.refl _ _) | (with_reducible refine Below.alloc ?_ ?_ _) | (with_reducible refine Below.setCell ?_ ?_ _) | (with_reducible refine Below.drew ?_) | (refine Below.trans ?_ (Below.mono (by with_reducible assumption) ?_)) | go_size))
theorem alive_any (w : World) : Calls Tryd.prog 14 #[] w fun e w' => e = .returned (.bool true) ∧ Below w.heap.size w w' := by
  have hK := Bk.new w 58 #[.int .i64 0, .int .i64 1, .int .i64 1]
  have HK := Lib.hid hK; clear hK
  go_enter Tryd.func14, Tryd.ntmps14
  go_wp2_with fail; ((with_reducible refine (otherEnd_one w.heap.size _ HK.out).mono ?_); rintro e w1 ⟨rfl, hb_5⟩); have hz_5 := hb_5.size; (try simp only [World.size_alloc, World.size_setCell, World.size_drew] at hz_5)
  go_wp2_with fail; ((with_reducible refine (netText_none _).mono ?_); rintro e w2 ⟨rfl, hb_6⟩); have hz_6 := hb_6.size; (try simp only [World.size_alloc, World.size_setCell, World.size_drew] at hz_6)
  go_wp2
  go_ret
  refine ⟨rfl, ?_⟩; (repeat' (first | (with_reducible exact Below.refl _ _) | (with_reducible refine Below.alloc ?_ ?_ _) | (with_reducible refine Below.setCell ?_ ?_ _) | (with_reducible refine Below.drew ?_) | (refine Below.trans ?_ (Below.mono (by with_reducible assumption) ?_)) | go_size))
end Go.Proofs.YtdfgdeccejcpfaaDoor
