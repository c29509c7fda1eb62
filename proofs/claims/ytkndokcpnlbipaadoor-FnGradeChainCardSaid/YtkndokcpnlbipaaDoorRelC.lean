/- Relays: the least dial. -/
import Derived.Test.YtkndokcpnlbipaaDoorRelB
namespace Go.Proofs.YtkndokcpnlbipaaDoor
open Go.RowKit
set_option linter.unusedSimpArgs false
set_option linter.unusedVariables false

/-- The least dial from d on, k dials tried. -/
noncomputable def ldFrom (p fp fd m lo hi : Int) : Nat → Int → Int
  | 0, _ => -1
  | k + 1, d => if gradeB p d fp fd m lo hi = true then d else ldFrom p fp fd m lo hi k (d + 1)
noncomputable def leastDial (p fp fd m lo hi : Int) : Int := ldFrom p fp fd m lo hi 60 1
theorem ldFrom_bd (p fp fd m lo hi : Int) (k : Nat) (d : Int) (h : 1 ≤ d) : ldFrom p fp fd m lo hi k d = -1 ∨ (d ≤ ldFrom p fp fd m lo hi k d ∧ ldFrom p fp fd m lo hi k d < d + k ∧ gradeB p (ldFrom p fp fd m lo hi k d) fp fd m lo hi = true) := by
  induction k generalizing d with
  | zero => left; rfl
  | succ k ih =>
    unfold ldFrom
    split
    · rename_i hg; right; exact ⟨by omega, by omega, hg⟩
    · rcases ih (d + 1) (by omega) with h1 | ⟨h1, h2, h3⟩
      · left; exact h1
      · right; exact ⟨by omega, by omega, h3⟩
theorem leastDial_bd (p fp fd m lo hi : Int) : leastDial p fp fd m lo hi = -1 ∨ (1 ≤ leastDial p fp fd m lo hi ∧ leastDial p fp fd m lo hi ≤ 60 ∧ gradeB p (leastDial p fp fd m lo hi) fp fd m lo hi = true) := by
  rcases ldFrom_bd p fp fd m lo hi 60 1 (by omega) with h | ⟨h1, h2, h3⟩
  · exact .inl h
  · exact .inr ⟨h1, by unfold leastDial; omega, h3⟩

set_option maxHeartbeats 1000000 in
theorem implLeastDial_any (p fp fd m lo hi : Int) (w : World) :
    Calls Tryd.prog 21 #[.int .i64 p, .agg #[.int .i64 fp, .int .i64 fd], .int .i64 m, .int .i64 lo, .int .i64 hi] w fun e w' => e = .returned (.int .i64 (leastDial p fp fd m lo hi)) ∧ Below w.heap.size w w' := by
  generalize hL : leastDial p fp fd m lo hi = L
  unfold leastDial at hL
  have HL := Lib.hid hL; clear hL
  go_enter Tryd.func21, Tryd.ntmps21
  go_wp2_with fail
  go_loopw [11] (fun t wr => ∃ d : Int, t = .int .i64 d ∧ 1 ≤ d ∧ d ≤ 61 ∧ Hid (ldFrom p fp fd m lo hi (61 - d).toNat d = L) ∧ Hid (Bk wr w.heap.size 24 #[.int .i64 fp, .int .i64 fd]) ∧ Hid (Below w.heap.size w wr)) (fun t _ => (62 - intOf t).toNat)
  case atStart => exact ⟨1, rfl, by omega, by omega, HL, Bk.new w _ _, by unfold Hid; (repeat' (first | (with_reducible exact Below.refl _ _) | (with_reducible refine Below.alloc ?_ ?_ _) | (with_reducible refine Below.setCell ?_ ?_ _) | (with_reducible refine Below.drew ?_) | (refine Below.trans ?_ (Below.mono (by with_reducible assumption) ?_)) | go_size))⟩
  case round =>
    obtain ⟨d, rfl, hd1, hd2, HA, HK, HB⟩ := hrel
    have c0 := HK.out.cell
    have hz := HK.out.lt
    by_cases hd : d ≤ 60
    · have hA := HA.out
      rw [show (61 - d).toNat = (61 - (d + 1)).toNat + 1 from by omega] at hA
      unfold ldFrom at hA
      by_cases hg : gradeB p d fp fd m lo hi = true
      · rw [if_pos hg] at hA
        have HA2 := Lib.hid hA; clear hA
        go_wp2_with fail; ((with_reducible refine (implGradeOk_any _ _ _ _ _ _ _ _).mono ?_); rintro e w1 ⟨rfl, hb_1⟩); have cB0_1 := keepB hb_1 (g := w.heap.size) (by go_size); have fB0_1 := keepF hb_1 (g := w.heap.size) (by go_size); have zB0_1 := keepZ hb_1 (g := w.heap.size) (by go_size); have hz_1 := hb_1.size; (try simp only [World.size_alloc, World.size_setCell, World.size_drew] at hz_1)
        go_wp2
        go_ret
        exact ⟨by rw [← HA2.out]; rfl, HB.out.trans (hb_1.mono (Nat.le_of_lt hz))⟩
      · rw [if_neg hg] at hA
        have hgf : gradeB p d fp fd m lo hi = false := by simpa using hg
        have HA2 := Lib.hid hA; clear hA hg
        go_wp2_with fail; ((with_reducible refine (implGradeOk_any _ _ _ _ _ _ _ _).mono ?_); rintro e w1 ⟨rfl, hb_2⟩); have cB0_2 := keepB hb_2 (g := w.heap.size) (by go_size); have fB0_2 := keepF hb_2 (g := w.heap.size) (by go_size); have zB0_2 := keepZ hb_2 (g := w.heap.size) (by go_size); have hz_2 := hb_2.size; (try simp only [World.size_alloc, World.size_setCell, World.size_drew] at hz_2)
        go_wp2
        go_roundw
        case rel => exact ⟨d + 1, rfl, by omega, by omega, HA2, HK.out.keep hb_2, HB.out.trans (hb_2.mono (Nat.le_of_lt hz))⟩
        case measure => simp [intOf]; omega
    · have hA := HA.out
      rw [show (61 - d).toNat = 0 from by omega] at hA
      have HA2 := Lib.hid hA; clear hA
      go_wp2
      go_ret
      exact ⟨by rw [← HA2.out]; rfl, HB.out⟩
set_option maxHeartbeats 1000000 in
theorem specLeastDial_any (p fp fd m lo hi : Int) (w : World) :
    Calls Tryd.prog 22 #[.int .i64 p, .agg #[.int .i64 fp, .int .i64 fd], .int .i64 m, .int .i64 lo, .int .i64 hi] w fun e w' => e = .returned (.int .i64 (leastDial p fp fd m lo hi)) ∧ Below w.heap.size w w' := by
  generalize hL : leastDial p fp fd m lo hi = L
  unfold leastDial at hL
  have HL := Lib.hid hL; clear hL
  go_enter Tryd.func22, Tryd.ntmps22
  go_wp2_with fail
  go_loopw [11] (fun t wr => ∃ d : Int, t = .int .i64 d ∧ 1 ≤ d ∧ d ≤ 61 ∧ Hid (ldFrom p fp fd m lo hi (61 - d).toNat d = L) ∧ Hid (Bk wr w.heap.size 24 #[.int .i64 fp, .int .i64 fd]) ∧ Hid (Below w.heap.size w wr)) (fun t _ => (62 - intOf t).toNat)
  case atStart => exact ⟨1, rfl, by omega, by omega, HL, Bk.new w _ _, by unfold Hid; (repeat' (first | (with_reducible exact Below.refl _ _) | (with_reducible refine Below.alloc ?_ ?_ _) | (with_reducible refine Below.setCell ?_ ?_ _) | (with_reducible refine Below.drew ?_) | (refine Below.trans ?_ (Below.mono (by with_reducible assumption) ?_)) | go_size))⟩
  case round =>
    obtain ⟨d, rfl, hd1, hd2, HA, HK, HB⟩ := hrel
    have c0 := HK.out.cell
    have hz := HK.out.lt
    by_cases hd : d ≤ 60
    · have hA := HA.out
      rw [show (61 - d).toNat = (61 - (d + 1)).toNat + 1 from by omega] at hA
      unfold ldFrom at hA
      by_cases hg : gradeB p d fp fd m lo hi = true
      · rw [if_pos hg] at hA
        have HA2 := Lib.hid hA; clear hA
        go_wp2_with fail; ((with_reducible refine (specGradeOk_any _ _ _ _ _ _ _ _).mono ?_); rintro e w1 ⟨rfl, hb_3⟩); have cB0_3 := keepB hb_3 (g := w.heap.size) (by go_size); have fB0_3 := keepF hb_3 (g := w.heap.size) (by go_size); have zB0_3 := keepZ hb_3 (g := w.heap.size) (by go_size); have hz_3 := hb_3.size; (try simp only [World.size_alloc, World.size_setCell, World.size_drew] at hz_3)
        go_wp2
        go_ret
        exact ⟨by rw [← HA2.out]; rfl, HB.out.trans (hb_3.mono (Nat.le_of_lt hz))⟩
      · rw [if_neg hg] at hA
        have hgf : gradeB p d fp fd m lo hi = false := by simpa using hg
        have HA2 := Lib.hid hA; clear hA hg
        go_wp2_with fail; ((with_reducible refine (specGradeOk_any _ _ _ _ _ _ _ _).mono ?_); rintro e w1 ⟨rfl, hb_4⟩); have cB0_4 := keepB hb_4 (g := w.heap.size) (by go_size); have fB0_4 := keepF hb_4 (g := w.heap.size) (by go_size); have zB0_4 := keepZ hb_4 (g := w.heap.size) (by go_size); have hz_4 := hb_4.size; (try simp only [World.size_alloc, World.size_setCell, World.size_drew] at hz_4)
        go_wp2
        go_roundw
        case rel => exact ⟨d + 1, rfl, by omega, by omega, HA2, HK.out.keep hb_4, HB.out.trans (hb_4.mono (Nat.le_of_lt hz))⟩
        case measure => simp [intOf]; omega
    · have hA := HA.out
      rw [show (61 - d).toNat = 0 from by omega] at hA
      have HA2 := Lib.hid hA; clear hA
      go_wp2
      go_ret
      exact ⟨by rw [← HA2.out]; rfl, HB.out⟩
end Go.Proofs.YtkndokcpnlbipaaDoor
