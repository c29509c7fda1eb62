/- laws.FnExactSpareOf: its walk: every call returns true, whatever the input. -/
import Derived.Test.YtcmcoemlccpldaaComB
import Derived.Test.YtcmcoemlccpldaaSlUnit
import Derived.Test.YtcmcoemlccpldaaSl1
namespace Go.Proofs.Ytcmcoemlccpldaa
open Go.RowKit
set_option linter.unusedSimpArgs false
set_option linter.unusedVariables false

set_option maxHeartbeats 2000000 in
theorem fnExactSpareOf_any (A0 : Option Addr) (n0 c0 : Nat) (xs0 : List R4) (A1 : Option Addr) (n1 c1 : Nat) (xs1 : List Bool) (a2 : Int) (w : World) (hn0 : xs0.length = n0) (hg0 : ∀ x ∈ xs0, G4 x) (hnc0 : n0 ≤ c0) (hcm0 : c0 ≤ maxLen) (hR0 : Reads 4 r4C w w.heap.size A0 xs0) (hn1 : xs1.length = n1) (hg1 : ∀ x ∈ xs1, True) (hnc1 : n1 ≤ c1) (hcm1 : c1 ≤ maxLen) (hR1 : Reads 1 boolC w w.heap.size A1 xs1) (ha2 : I64 a2) :
    Calls Try.prog 11 #[.slice A0 n0 c0, .slice A1 n1 c1, .int .i64 a2] w fun e w' => e = .returned (.bool true) ∧ Below w.heap.size w w' := by
  unfold maxLen at hcm0 hcm1
  subst hn0 hn1
  have HR0 := Lib.hid hR0; clear hR0
  have HG0 := Lib.hid hg0; clear hg0
  have HR1 := Lib.hid hR1; clear hR1
  have HG1 := Lib.hid hg1; clear hg1
  have hnn : ∀ x : Int, (x != x) = false := fun x => by simp
  have hbb : ∀ x : Bool, (x != x) = false := fun x => by simp
  by_cases hl1 : xs1.length ≤ 1048576
  · have hl1' : ¬ (1048576 : Int) < xs1.length := by omega
    by_cases hs0 : (xs0.length : Int) ≤ 1048576
    · have hl0 : xs0.length ≤ 1048576 := by omega
      have hd0 : (0 : Int) ≤ 1048576 - xs0.length := by omega
      go_enter Try.func11, Try.ntmps11
      go_wp2_with fail
      refine (szUnitS_any A0 xs0.length c0 _ _ (by omega) (by omega) (by omega)).mono ?_
      rintro e w0 ⟨rfl, rfl⟩
      rw [if_pos (by omega)]
      have HB0 : Hid (Below w.heap.size w w) := Below.refl _ _
      go_wp2_with fail; ((with_reducible refine (toUnitS_any A0 c0 xs0 w ((HR0.out.below HB0.out (Nat.le_refl _)).more (by omega)) hl0).mono ?_); rintro e w1 ⟨vs0, rfl, hrs0, hb_1⟩); have hz_1 := hb_1.size; (try simp only [World.size_alloc, World.size_setCell, World.size_drew] at hz_1)
      have HB1 : Hid (Below w.heap.size w w1) := by unfold Hid; have hB := HB0.out; (repeat' (first | (with_reducible exact Below.refl _ _) | (with_reducible refine Below.alloc ?_ ?_ _) | (with_reducible refine Below.setCell ?_ ?_ _) | (with_reducible refine Below.drew ?_) | (refine Below.trans ?_ (Below.mono (by with_reducible assumption) ?_)) | go_size))
      have HSs0 := Lib.hid hrs0
      obtain ⟨Bs0, ds0, rfl, _⟩ := hrs0
      go_wp2_with fail; ((with_reducible refine (toBoolS_any A1 c1 xs1 w1 ((HR1.out.below HB1.out (Nat.le_refl _)).more (by omega)) hl1).mono ?_); rintro e w2 ⟨vs1, rfl, hrs1, hb_2⟩); have hz_2 := hb_2.size; (try simp only [World.size_alloc, World.size_setCell, World.size_drew] at hz_2)
      have HB2 : Hid (Below w.heap.size w w2) := by unfold Hid; have hB := HB1.out; (repeat' (first | (with_reducible exact Below.refl _ _) | (with_reducible refine Below.alloc ?_ ?_ _) | (with_reducible refine Below.setCell ?_ ?_ _) | (with_reducible refine Below.drew ?_) | (refine Below.trans ?_ (Below.mono (by with_reducible assumption) ?_)) | go_size))
      have HSs0 := Lib.hid (HSs0.out.below hb_2)
      have HSs1 := Lib.hid hrs1
      obtain ⟨Bs1, ds1, rfl, _⟩ := hrs1
      go_wp2_with fail; ((with_reducible refine (specSpareOf_any Bs0 Bs1 ds0 ds1 xs0 xs1 a2 ha2 w2 HSs0.out.reads.1 HSs1.out.reads.1 hl0 hl1).mono ?_); rintro e w3 ⟨rfl, hb_3⟩); have hz_3 := hb_3.size; (try simp only [World.size_alloc, World.size_setCell, World.size_drew] at hz_3)
      have HB3 : Hid (Below w.heap.size w w3) := by unfold Hid; have hB := HB2.out; (repeat' (first | (with_reducible exact Below.refl _ _) | (with_reducible refine Below.alloc ?_ ?_ _) | (with_reducible refine Below.setCell ?_ ?_ _) | (with_reducible refine Below.drew ?_) | (refine Below.trans ?_ (Below.mono (by with_reducible assumption) ?_)) | go_size))
      have HSs0 := Lib.hid (HSs0.out.below hb_3)
      have HSs1 := Lib.hid (HSs1.out.below hb_3)
      go_wp2_with fail; ((with_reducible refine (toUnitS_any A0 c0 xs0 w3 ((HR0.out.below HB3.out (Nat.le_refl _)).more (by omega)) hl0).mono ?_); rintro e w4 ⟨vx0, rfl, hrx0, hb_4⟩); have hz_4 := hb_4.size; (try simp only [World.size_alloc, World.size_setCell, World.size_drew] at hz_4)
      have HB4 : Hid (Below w.heap.size w w4) := by unfold Hid; have hB := HB3.out; (repeat' (first | (with_reducible exact Below.refl _ _) | (with_reducible refine Below.alloc ?_ ?_ _) | (with_reducible refine Below.setCell ?_ ?_ _) | (with_reducible refine Below.drew ?_) | (refine Below.trans ?_ (Below.mono (by with_reducible assumption) ?_)) | go_size))
      have HSx0 := Lib.hid hrx0
      obtain ⟨Bx0, dx0, rfl, _⟩ := hrx0
      go_wp2_with fail; ((with_reducible refine (toBoolS_any A1 c1 xs1 w4 ((HR1.out.below HB4.out (Nat.le_refl _)).more (by omega)) hl1).mono ?_); rintro e w5 ⟨vx1, rfl, hrx1, hb_5⟩); have hz_5 := hb_5.size; (try simp only [World.size_alloc, World.size_setCell, World.size_drew] at hz_5)
      have HB5 : Hid (Below w.heap.size w w5) := by unfold Hid; have hB := HB4.out; (repeat' (first | (with_reducible exact Below.refl _ _) | (with_reducible refine Below.alloc ?_ ?_ _) | (with_reducible refine Below.setCell ?_ ?_ _) | (with_reducible refine Below.drew ?_) | (refine Below.trans ?_ (Below.mono (by with_reducible assumption) ?_)) | go_size))
      have HSx0 := Lib.hid (HSx0.out.below hb_5)
      have HSx1 := Lib.hid hrx1
      obtain ⟨Bx1, dx1, rfl, _⟩ := hrx1
      go_wp2_with fail; ((with_reducible refine (implSpareOf_any Bx0 Bx1 dx0 dx1 xs0 xs1 a2 ha2 w5 HSx0.out.reads.1 HSx1.out.reads.1 hl0 hl1).mono ?_); rintro e w6 ⟨rfl, hb_6⟩); have hz_6 := hb_6.size; (try simp only [World.size_alloc, World.size_setCell, World.size_drew] at hz_6)
      have HB6 : Hid (Below w.heap.size w w6) := by unfold Hid; have hB := HB5.out; (repeat' (first | (with_reducible exact Below.refl _ _) | (with_reducible refine Below.alloc ?_ ?_ _) | (with_reducible refine Below.setCell ?_ ?_ _) | (with_reducible refine Below.drew ?_) | (refine Below.trans ?_ (Below.mono (by with_reducible assumption) ?_)) | go_size))
      have HSx0 := Lib.hid (HSx0.out.below hb_6)
      have HSx1 := Lib.hid (HSx1.out.below hb_6)
      go_wp2_with fail; ((with_reducible refine (toUnitS_any A0 c0 xs0 w6 ((HR0.out.below HB6.out (Nat.le_refl _)).more (by omega)) hl0).mono ?_); rintro e w7 ⟨vy0, rfl, hry0, hb_7⟩); have hz_7 := hb_7.size; (try simp only [World.size_alloc, World.size_setCell, World.size_drew] at hz_7)
      have HB7 : Hid (Below w.heap.size w w7) := by unfold Hid; have hB := HB6.out; (repeat' (first | (with_reducible exact Below.refl _ _) | (with_reducible refine Below.alloc ?_ ?_ _) | (with_reducible refine Below.setCell ?_ ?_ _) | (with_reducible refine Below.drew ?_) | (refine Below.trans ?_ (Below.mono (by with_reducible assumption) ?_)) | go_size))
      have HSx0 := Lib.hid (HSx0.out.below hb_7)
      have HSx1 := Lib.hid (HSx1.out.below hb_7)
      have HSy0 := Lib.hid hry0
      obtain ⟨By0, dy0, rfl, _⟩ := hry0
      go_wp2_with fail; ((with_reducible refine (eqUnitS_any Bx0 By0 dx0 dy0 xs0 w7 HSx0.out.reads.1 HSy0.out.reads.1 hl0).mono ?_); rintro e w8 ⟨rfl, hb_8⟩); have hz_8 := hb_8.size; (try simp only [World.size_alloc, World.size_setCell, World.size_drew] at hz_8)
      have HB8 : Hid (Below w.heap.size w w8) := by unfold Hid; have hB := HB7.out; (repeat' (first | (with_reducible exact Below.refl _ _) | (with_reducible refine Below.alloc ?_ ?_ _) | (with_reducible refine Below.setCell ?_ ?_ _) | (with_reducible refine Below.drew ?_) | (refine Below.trans ?_ (Below.mono (by with_reducible assumption) ?_)) | go_size))
      have HSx0 := Lib.hid (HSx0.out.below hb_8)
      have HSx1 := Lib.hid (HSx1.out.below hb_8)
      have HSy0 := Lib.hid (HSy0.out.below hb_8)
      go_wp2_with fail; ((with_reducible refine (toBoolS_any A1 c1 xs1 w8 ((HR1.out.below HB8.out (Nat.le_refl _)).more (by omega)) hl1).mono ?_); rintro e w9 ⟨vy1, rfl, hry1, hb_9⟩); have hz_9 := hb_9.size; (try simp only [World.size_alloc, World.size_setCell, World.size_drew] at hz_9)
      have HB9 : Hid (Below w.heap.size w w9) := by unfold Hid; have hB := HB8.out; (repeat' (first | (with_reducible exact Below.refl _ _) | (with_reducible refine Below.alloc ?_ ?_ _) | (with_reducible refine Below.setCell ?_ ?_ _) | (with_reducible refine Below.drew ?_) | (refine Below.trans ?_ (Below.mono (by with_reducible assumption) ?_)) | go_size))
      have HSx0 := Lib.hid (HSx0.out.below hb_9)
      have HSx1 := Lib.hid (HSx1.out.below hb_9)
      have HSy1 := Lib.hid hry1
      obtain ⟨By1, dy1, rfl, _⟩ := hry1
      go_wp2_with fail; ((with_reducible refine (eqBoolS_any Bx1 By1 dx1 dy1 xs1 w9 HSx1.out.reads.1 HSy1.out.reads.1 hl1).mono ?_); rintro e w10 ⟨rfl, hb_10⟩); have hz_10 := hb_10.size; (try simp only [World.size_alloc, World.size_setCell, World.size_drew] at hz_10)
      have HB10 : Hid (Below w.heap.size w w10) := by unfold Hid; have hB := HB9.out; (repeat' (first | (with_reducible exact Below.refl _ _) | (with_reducible refine Below.alloc ?_ ?_ _) | (with_reducible refine Below.setCell ?_ ?_ _) | (with_reducible refine Below.drew ?_) | (refine Below.trans ?_ (Below.mono (by with_reducible assumption) ?_)) | go_size))
      have HSx0 := Lib.hid (HSx0.out.below hb_10)
      have HSx1 := Lib.hid (HSx1.out.below hb_10)
      have HSy1 := Lib.hid (HSy1.out.below hb_10)
      go_wp2
      go_ret
      exact ⟨rfl, HB10.out⟩
    · go_enter Try.func11, Try.ntmps11
      go_wp2_with fail
      refine (szUnitS_any A0 xs0.length c0 _ _ (by omega) (by omega) (by omega)).mono ?_
      rintro e w0 ⟨rfl, rfl⟩
      rw [if_neg (by omega)]
      go_wp2_with fail
      go_ret
      exact ⟨rfl, Below.refl _ _⟩
  · have hl1' : (1048576 : Int) < xs1.length := by omega
    go_enter Try.func11, Try.ntmps11
    go_wp2_with fail
    go_ret
    exact ⟨rfl, Below.refl _ _⟩
end Go.Proofs.Ytcmcoemlccpldaa
