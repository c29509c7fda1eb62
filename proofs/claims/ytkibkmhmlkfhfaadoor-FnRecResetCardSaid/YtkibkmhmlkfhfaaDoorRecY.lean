/- The law FnRecReset: its walk. -/
import Derived.Test.YtkibkmhmlkfhfaaDoorRecW
namespace Go.Proofs.YtkibkmhmlkfhfaaDoor
open Go.RowKit Go.Deep
set_option linter.unusedSimpArgs false
set_option linter.unusedVariables false
set_option maxHeartbeats 4000000 in
theorem fnRecReset_any (A : Option Addr) (n c : Nat) (bs : List Int) (w : World) (hn : bs.length = n) (hb : ∀ x ∈ bs, U8 x) (hc : n ≤ c) (hcm : c ≤ maxLen) (hR : Reads 1 byteC w w.heap.size A bs) :
    Calls Tryd.prog 5 #[.slice A n c] w fun e w' => e = .returned (.bool true) ∧ Below w.heap.size w w' := by
  unfold maxLen at hcm
  subst hn
  have HR := Lib.hid hR; clear hR
  have HB := Lib.hid hb; clear hb
  have hbb : ∀ x : Bool, (x != x) = false := fun x => by simp
  by_cases hl : bs.length ≤ 1048576
  · have hl' : ¬ (1048576 : Int) < bs.length := by omega
    go_enter Tryd.func5, Tryd.ntmps5
    go_wp2_with fail; ((with_reducible refine (drawRecReset_any A c bs w HR.out HB.out hl hc hcm).mono ?_); rintro e w1 ⟨a, b, c', d, rfl, hs, hb_1⟩); have hz_1 := hb_1.size; (try simp only [World.size_alloc, World.size_setCell, World.size_drew] at hz_1)
    clear hs
    by_cases hr : a = 2 ∧ b = 3 ∧ c' = 0 ∧ d = 0
    · obtain ⟨rfl, rfl, rfl, rfl⟩ := hr
      have e1 := (recReset_t (s := 2) (sh := 3) (wt := 0) (g := 0) ⟨rfl, rfl, rfl, rfl⟩)
      have HE := Lib.hid e1; clear e1
      have t1 : recTicks 0 0 0 0 = 0 := by simp [recTicks, RecP]
      have t2 : recTicks 2 3 0 0 = -1 := by simp [recTicks, RecP]
      go_wp2_with fail; ((with_reducible refine (implRecReset_any _ _ _ _ _).mono ?_); rintro e w2 ⟨rfl, hb_2⟩); have cB0_2 := keepB hb_2 (g := w1.heap.size) (by go_size); have fB0_2 := keepF hb_2 (g := w1.heap.size) (by go_size); have zB0_2 := keepZ hb_2 (g := w1.heap.size) (by go_size); have hz_2 := hb_2.size; (try simp only [World.size_alloc, World.size_setCell, World.size_drew] at hz_2)
      rw [HE.out.1, HE.out.2]
      go_wp2_with fail; ((with_reducible refine (specRecReset_any _ _ _ _ _).mono ?_); rintro e w3 ⟨rfl, hb_3⟩); have cB0_3 := keepB hb_3 (g := w1.heap.size) (by go_size); have fB0_3 := keepF hb_3 (g := w1.heap.size) (by go_size); have zB0_3 := keepZ hb_3 (g := w1.heap.size) (by go_size); have cB1_3 := keepB hb_3 (g := w2.heap.size) (by go_size); have fB1_3 := keepF hb_3 (g := w2.heap.size) (by go_size); have zB1_3 := keepZ hb_3 (g := w2.heap.size) (by go_size); have hz_3 := hb_3.size; (try simp only [World.size_alloc, World.size_setCell, World.size_drew] at hz_3)
      rw [HE.out.1, HE.out.2]
      go_wp2_with fail; ((with_reducible refine (implRecTicks_any _ _ _ _ _).mono ?_); rintro e w4 ⟨rfl, hb_4⟩); have cB0_4 := keepB hb_4 (g := w1.heap.size) (by go_size); have fB0_4 := keepF hb_4 (g := w1.heap.size) (by go_size); have zB0_4 := keepZ hb_4 (g := w1.heap.size) (by go_size); have cB1_4 := keepB hb_4 (g := w2.heap.size) (by go_size); have fB1_4 := keepF hb_4 (g := w2.heap.size) (by go_size); have zB1_4 := keepZ hb_4 (g := w2.heap.size) (by go_size); have hz_4 := hb_4.size; (try simp only [World.size_alloc, World.size_setCell, World.size_drew] at hz_4)
      go_wp2_with fail; ((with_reducible refine (implRecTicks_any _ _ _ _ _).mono ?_); rintro e w5 ⟨rfl, hb_5⟩); have cB0_5 := keepB hb_5 (g := w1.heap.size) (by go_size); have fB0_5 := keepF hb_5 (g := w1.heap.size) (by go_size); have zB0_5 := keepZ hb_5 (g := w1.heap.size) (by go_size); have cB1_5 := keepB hb_5 (g := w2.heap.size) (by go_size); have fB1_5 := keepF hb_5 (g := w2.heap.size) (by go_size); have zB1_5 := keepZ hb_5 (g := w2.heap.size) (by go_size); have hz_5 := hb_5.size; (try simp only [World.size_alloc, World.size_setCell, World.size_drew] at hz_5)
      go_wp2
      go_ret
      refine ⟨rfl, ?_⟩; (repeat' (first | (with_reducible exact Below.refl _ _) | (with_reducible refine Below.alloc ?_ ?_ _) | (with_reducible refine Below.setCell ?_ ?_ _) | (with_reducible refine Below.drew ?_) | (refine Below.trans ?_ (Below.mono (by with_reducible assumption) ?_)) | go_size))
    · have e1 := recReset_f hr
      have HE := Lib.hid e1; clear e1 hr
      go_wp2_with fail; ((with_reducible refine (implRecReset_any _ _ _ _ _).mono ?_); rintro e w2 ⟨rfl, hb_6⟩); have cB0_6 := keepB hb_6 (g := w1.heap.size) (by go_size); have fB0_6 := keepF hb_6 (g := w1.heap.size) (by go_size); have zB0_6 := keepZ hb_6 (g := w1.heap.size) (by go_size); have hz_6 := hb_6.size; (try simp only [World.size_alloc, World.size_setCell, World.size_drew] at hz_6)
      rw [HE.out.1, HE.out.2]
      go_wp2_with fail; ((with_reducible refine (specRecReset_any _ _ _ _ _).mono ?_); rintro e w3 ⟨rfl, hb_7⟩); have cB0_7 := keepB hb_7 (g := w1.heap.size) (by go_size); have fB0_7 := keepF hb_7 (g := w1.heap.size) (by go_size); have zB0_7 := keepZ hb_7 (g := w1.heap.size) (by go_size); have cB1_7 := keepB hb_7 (g := w2.heap.size) (by go_size); have fB1_7 := keepF hb_7 (g := w2.heap.size) (by go_size); have zB1_7 := keepZ hb_7 (g := w2.heap.size) (by go_size); have hz_7 := hb_7.size; (try simp only [World.size_alloc, World.size_setCell, World.size_drew] at hz_7)
      rw [HE.out.1, HE.out.2]
      go_wp2_with fail; ((with_reducible refine (alive_any _).mono ?_); rintro e w4 ⟨rfl, hb_8⟩); have hz_8 := hb_8.size; (try simp only [World.size_alloc, World.size_setCell, World.size_drew] at hz_8)
      go_wp2
      go_ret
      refine ⟨rfl, ?_⟩; (repeat' (first | (with_reducible exact Below.refl _ _) | (with_reducible refine Below.alloc ?_ ?_ _) | (with_reducible refine Below.setCell ?_ ?_ _) | (with_reducible refine Below.drew ?_) | (refine Below.trans ?_ (Below.mono (by with_reducible assumption) ?_)) | go_size))
  · have hl' : (1048576 : Int) < bs.length := by omega
    go_enter Tryd.func5, Tryd.ntmps5
    go_wp2_with fail
    go_ret
    exact ⟨rfl, Below.refl _ _⟩
end Go.Proofs.YtkibkmhmlkfhfaaDoor
