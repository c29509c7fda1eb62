/- laws.FnExactNextCost: its walk: every call returns true, whatever the input. -/
import Derived.Test.YtcmcoemlccpldaaNxt
import Derived.Test.YtcmcoemlccpldaaSlUnit
import Derived.Test.YtcmcoemlccpldaaSl1
namespace Go.Proofs.Ytcmcoemlccpldaa
open Go.RowKit
set_option linter.unusedSimpArgs false
set_option linter.unusedVariables false

set_option maxHeartbeats 2000000 in
theorem fnExactNextCost_any (A0 : Option Addr) (n0 c0 : Nat) (xs0 : List R4) (a1 : Int) (w : World) (hn0 : xs0.length = n0) (hg0 : ∀ x ∈ xs0, G4 x) (hnc0 : n0 ≤ c0) (hcm0 : c0 ≤ maxLen) (hR0 : Reads 4 r4C w w.heap.size A0 xs0) (ha1 : I64 a1) :
    Calls Try.prog 8 #[.slice A0 n0 c0, .int .i64 a1] w fun e w' => e = .returned (.bool true) ∧ Below w.heap.size w w' := by
  unfold maxLen at hcm0
  subst hn0
  have HR0 := Lib.hid hR0; clear hR0
  have HG0 := Lib.hid hg0; clear hg0
  have hnn : ∀ x : Int, (x != x) = false := fun x => by simp
  have hbb : ∀ x : Bool, (x != x) = false := fun x => by simp
  by_cases hs0 : (xs0.length : Int) ≤ 1048576
  · have hl0 : xs0.length ≤ 1048576 := by omega
    have hd0 : (0 : Int) ≤ 1048576 - xs0.length := by omega
    go_enter Try.func8, Try.ntmps8
    go_wp2_with fail
    refine (szUnitS_any A0 xs0.length c0 _ _ (by omega) (by omega) (by omega)).mono ?_
    rintro e w0 ⟨rfl, rfl⟩
    rw [if_pos (by omega)]
    have HB0 : Hid (Below w.heap.size w w) := Below.refl _ _
    go_wp2_with fail; ((with_reducible refine (toUnitS_any A0 c0 xs0 w ((HR0.out.below HB0.out (Nat.le_refl _)).more (by omega)) hl0).mono ?_); rintro e w1 ⟨vs0, rfl, hrs0, hb_1⟩); have hz_1 := hb_1.size; (try simp only [World.size_alloc, World.size_setCell, World.size_drew] at hz_1)
    have HB1 : Hid (Below w.heap.size w w1) := by unfold Hid; have hB := HB0.out; (repeat' (first | (with_reducible exact Below.refl _ _) | (with_reducible refine Below.alloc ?_ ?_ _) | (with_reducible refine Below.setCell ?_ ?_ _) | (with_reducible refine Below.drew ?_) | (refine Below.trans ?_ (Below.mono (by with_reducible assumption) ?_)) | go_size))
    have HSs0 := Lib.hid hrs0
    obtain ⟨Bs0, ds0, rfl, _⟩ := hrs0
    go_wp2_with fail; ((with_reducible refine (specNextCost_any Bs0 ds0 xs0 a1 ha1 w1 HSs0.out.reads.1 hl0).mono ?_); rintro e w2 ⟨rfl, hb_2⟩); have hz_2 := hb_2.size; (try simp only [World.size_alloc, World.size_setCell, World.size_drew] at hz_2)
    have HB2 : Hid (Below w.heap.size w w2) := by unfold Hid; have hB := HB1.out; (repeat' (first | (with_reducible exact Below.refl _ _) | (with_reducible refine Below.alloc ?_ ?_ _) | (with_reducible refine Below.setCell ?_ ?_ _) | (with_reducible refine Below.drew ?_) | (refine Below.trans ?_ (Below.mono (by with_reducible assumption) ?_)) | go_size))
    have HSs0 := Lib.hid (HSs0.out.below hb_2)
    go_wp2_with fail; ((with_reducible refine (toUnitS_any A0 c0 xs0 w2 ((HR0.out.below HB2.out (Nat.le_refl _)).more (by omega)) hl0).mono ?_); rintro e w3 ⟨vx0, rfl, hrx0, hb_3⟩); have hz_3 := hb_3.size; (try simp only [World.size_alloc, World.size_setCell, World.size_drew] at hz_3)
    have HB3 : Hid (Below w.heap.size w w3) := by unfold Hid; have hB := HB2.out; (repeat' (first | (with_reducible exact Below.refl _ _) | (with_reducible refine Below.alloc ?_ ?_ _) | (with_reducible refine Below.setCell ?_ ?_ _) | (with_reducible refine Below.drew ?_) | (refine Below.trans ?_ (Below.mono (by with_reducible assumption) ?_)) | go_size))
    have HSx0 := Lib.hid hrx0
    obtain ⟨Bx0, dx0, rfl, _⟩ := hrx0
    go_wp2_with fail; ((with_reducible refine (implNextCost_any Bx0 dx0 xs0 a1 ha1 w3 HSx0.out.reads.1 hl0).mono ?_); rintro e w4 ⟨rfl, hb_4⟩); have hz_4 := hb_4.size; (try simp only [World.size_alloc, World.size_setCell, World.size_drew] at hz_4)
    have HB4 : Hid (Below w.heap.size w w4) := by unfold Hid; have hB := HB3.out; (repeat' (first | (with_reducible exact Below.refl _ _) | (with_reducible refine Below.alloc ?_ ?_ _) | (with_reducible refine Below.setCell ?_ ?_ _) | (with_reducible refine Below.drew ?_) | (refine Below.trans ?_ (Below.mono (by with_reducible assumption) ?_)) | go_size))
    have HSx0 := Lib.hid (HSx0.out.below hb_4)
    go_wp2_with fail; ((with_reducible refine (toUnitS_any A0 c0 xs0 w4 ((HR0.out.below HB4.out (Nat.le_refl _)).more (by omega)) hl0).mono ?_); rintro e w5 ⟨vy0, rfl, hry0, hb_5⟩); have hz_5 := hb_5.size; (try simp only [World.size_alloc, World.size_setCell, World.size_drew] at hz_5)
    have HB5 : Hid (Below w.heap.size w w5) := by unfold Hid; have hB := HB4.out; (repeat' (first | (with_reducible exact Below.refl _ _) | (with_reducible refine Below.alloc ?_ ?_ _) | (with_reducible refine Below.setCell ?_ ?_ _) | (with_reducible refine Below.drew ?_) | (refine Below.trans ?_ (Below.mono (by with_reducible assumption) ?_)) | go_size))
    have HSx0 := Lib.hid (HSx0.out.below hb_5)
    have HSy0 := Lib.hid hry0
    obtain ⟨By0, dy0, rfl, _⟩ := hry0
    go_wp2_with fail; ((with_reducible refine (eqUnitS_any Bx0 By0 dx0 dy0 xs0 w5 HSx0.out.reads.1 HSy0.out.reads.1 hl0).mono ?_); rintro e w6 ⟨rfl, hb_6⟩); have hz_6 := hb_6.size; (try simp only [World.size_alloc, World.size_setCell, World.size_drew] at hz_6)
    have HB6 : Hid (Below w.heap.size w w6) := by unfold Hid; have hB := HB5.out; (repeat' (first | (with_reducible exact Below.refl _ _) | (with_reducible refine Below.alloc ?_ ?_ _) | (with_reducible refine Below.setCell ?_ ?_ _) | (with_reducible refine Below.drew ?_) | (refine Below.trans ?_ (Below.mono (by with_reducible assumption) ?_)) | go_size))
    have HSx0 := Lib.hid (HSx0.out.below hb_6)
    have HSy0 := Lib.hid (HSy0.out.below hb_6)
    go_wp2
    go_ret
    exact ⟨rfl, HB6.out⟩
  · go_enter Try.func8, Try.ntmps8
    go_wp2_with fail
    refine (szUnitS_any A0 xs0.length c0 _ _ (by omega) (by omega) (by omega)).mono ?_
    rintro e w0 ⟨rfl, rfl⟩
    rw [if_neg (by omega)]
    go_wp2_with fail
    go_ret
    exact ⟨rfl, Below.refl _ _⟩
end Go.Proofs.Ytcmcoemlccpldaa
