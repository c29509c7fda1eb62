/- laws.FnExactRampRun: its walk: every call returns true, whatever the input. -/
import Derived.Test.YtcmcoemlccpldaaRmpF
import Derived.Test.YtcmcoemlccpldaaMkInt
import Derived.Test.YtcmcoemlccpldaaMkUnit
import Derived.Test.YtcmcoemlccpldaaSlUnit
import Derived.Test.YtcmcoemlccpldaaSl1
namespace Go.Proofs.Ytcmcoemlccpldaa
open Go.RowKit
set_option linter.unusedSimpArgs false
set_option linter.unusedVariables false

set_option maxHeartbeats 4000000 in
theorem fnExactRampRun_any (A0 : Option Addr) (n0 c0 : Nat) (xs0 : List R4) (A1 : Option Addr) (n1 c1 : Nat) (xs1 : List Int) (A2 : Option Addr) (n2 c2 : Nat) (xs2 : List Int) (A3 : Option Addr) (n3 c3 : Nat) (xs3 : List Int) (w : World) (hn0 : xs0.length = n0) (hg0 : ∀ x ∈ xs0, G4 x) (hnc0 : n0 ≤ c0) (hcm0 : c0 ≤ maxLen) (hR0 : Reads 4 r4C w w.heap.size A0 xs0) (hn1 : xs1.length = n1) (hg1 : ∀ x ∈ xs1, I64 x) (hnc1 : n1 ≤ c1) (hcm1 : c1 ≤ maxLen) (hR1 : Reads 1 intC w w.heap.size A1 xs1) (hn2 : xs2.length = n2) (hg2 : ∀ x ∈ xs2, I64 x) (hnc2 : n2 ≤ c2) (hcm2 : c2 ≤ maxLen) (hR2 : Reads 1 intC w w.heap.size A2 xs2) (hn3 : xs3.length = n3) (hg3 : ∀ x ∈ xs3, I64 x) (hnc3 : n3 ≤ c3) (hcm3 : c3 ≤ maxLen) (hR3 : Reads 1 intC w w.heap.size A3 xs3) :
    Calls Try.prog 13 #[.slice A0 n0 c0, .slice A1 n1 c1, .slice A2 n2 c2, .slice A3 n3 c3] w fun e w' => e = .returned (.bool true) ∧ Below w.heap.size w w' := by
  unfold maxLen at hcm0 hcm1 hcm2 hcm3
  subst hn0 hn1 hn2 hn3
  have HR0 := Lib.hid hR0; clear hR0
  have HG0 := Lib.hid hg0; clear hg0
  have HR1 := Lib.hid hR1; clear hR1
  have HG1 := Lib.hid hg1; clear hg1
  have HR2 := Lib.hid hR2; clear hR2
  have HG2 := Lib.hid hg2; clear hg2
  have HR3 := Lib.hid hR3; clear hR3
  have HG3 := Lib.hid hg3; clear hg3
  have hnn : ∀ x : Int, (x != x) = false := fun x => by simp
  have hbb : ∀ x : Bool, (x != x) = false := fun x => by simp
  by_cases hl1 : xs1.length ≤ 1048576
  · have hl1' : ¬ (1048576 : Int) < xs1.length := by omega
    by_cases hl2 : xs2.length ≤ 1048576
    · have hl2' : ¬ (1048576 : Int) < xs2.length := by omega
      by_cases hl3 : xs3.length ≤ 1048576
      · have hl3' : ¬ (1048576 : Int) < xs3.length := by omega
        by_cases hs0 : (xs0.length : Int) ≤ 1048576
        · have hl0 : xs0.length ≤ 1048576 := by omega
          have hd0 : (0 : Int) ≤ 1048576 - xs0.length := by omega
          have HOL : Hid (((rrunO xs0 xs1 xs2 xs3).1).length ≤ 1048576) := by unfold Hid; exact Nat.le_trans (rrunO_len xs0 xs1 xs2 xs3) (by omega)
          generalize hout : (rrunO xs0 xs1 xs2 xs3).1 = out at HOL
          have HOUT := Lib.hid hout; clear hout
          generalize hob : (((rrunO xs0 xs1 xs2 xs3).2 : Nat) : Int) = ob
          have HOB := Lib.hid hob; clear hob
          go_enter Try.func13, Try.ntmps13
          go_wp2_with fail
          refine (szUnitS_any A0 xs0.length c0 _ _ (by omega) (by omega) (by omega)).mono ?_
          rintro e w0 ⟨rfl, rfl⟩
          rw [if_pos (by omega)]
          have HB0 : Hid (Below w.heap.size w w) := Below.refl _ _
          go_wp2_with fail; ((with_reducible refine (toUnitS_any A0 c0 xs0 w ((HR0.out.below HB0.out (Nat.le_refl _)).more HB0.out.size) hl0).mono ?_); rintro e w1 ⟨vs0, rfl, hrs0, hb_1⟩); have hz_1 := hb_1.size; (try simp only [World.size_alloc, World.size_setCell, World.size_drew] at hz_1)
          have HB1 : Hid (Below w.heap.size w w1) := HB0.out.trans (hb_1.mono HB0.out.size)
          clear hb_1
          have HSs0 := Lib.hid hrs0
          obtain ⟨Bs0, ds0, rfl, _⟩ := hrs0
          have HEs0 := Lib.hid HSs0.out.top
          have HKs0 : Hid (Below w1.heap.size w1 w1) := Below.refl _ _
          go_wp2_with fail; ((with_reducible refine (toIntS_any A1 c1 xs1 w1 ((HR1.out.below HB1.out (Nat.le_refl _)).more HB1.out.size) hl1).mono ?_); rintro e w2 ⟨vs1, rfl, hrs1, hb_2⟩); have hz_2 := hb_2.size; (try simp only [World.size_alloc, World.size_setCell, World.size_drew] at hz_2)
          have HB2 : Hid (Below w.heap.size w w2) := HB1.out.trans (hb_2.mono HB1.out.size)
          have HKs0 : Hid (Below w1.heap.size w1 w2) := HKs0.out.trans (hb_2.mono HKs0.out.size)
          clear hb_2
          have HSs1 := Lib.hid hrs1
          obtain ⟨Bs1, ds1, rfl, _⟩ := hrs1
          have HEs1 := Lib.hid HSs1.out.top
          have HKs1 : Hid (Below w2.heap.size w2 w2) := Below.refl _ _
          go_wp2_with fail; ((with_reducible refine (toIntS_any A2 c2 xs2 w2 ((HR2.out.below HB2.out (Nat.le_refl _)).more HB2.out.size) hl2).mono ?_); rintro e w3 ⟨vs2, rfl, hrs2, hb_3⟩); have hz_3 := hb_3.size; (try simp only [World.size_alloc, World.size_setCell, World.size_drew] at hz_3)
          have HB3 : Hid (Below w.heap.size w w3) := HB2.out.trans (hb_3.mono HB2.out.size)
          have HKs0 : Hid (Below w1.heap.size w1 w3) := HKs0.out.trans (hb_3.mono HKs0.out.size)
          have HKs1 : Hid (Below w2.heap.size w2 w3) := HKs1.out.trans (hb_3.mono HKs1.out.size)
          clear hb_3
          have HSs2 := Lib.hid hrs2
          obtain ⟨Bs2, ds2, rfl, _⟩ := hrs2
          have HEs2 := Lib.hid HSs2.out.top
          have HKs2 : Hid (Below w3.heap.size w3 w3) := Below.refl _ _
          go_wp2_with fail; ((with_reducible refine (toIntS_any A3 c3 xs3 w3 ((HR3.out.below HB3.out (Nat.le_refl _)).more HB3.out.size) hl3).mono ?_); rintro e w4 ⟨vs3, rfl, hrs3, hb_4⟩); have hz_4 := hb_4.size; (try simp only [World.size_alloc, World.size_setCell, World.size_drew] at hz_4)
          have HB4 : Hid (Below w.heap.size w w4) := HB3.out.trans (hb_4.mono HB3.out.size)
          have HKs0 : Hid (Below w1.heap.size w1 w4) := HKs0.out.trans (hb_4.mono HKs0.out.size)
          have HKs1 : Hid (Below w2.heap.size w2 w4) := HKs1.out.trans (hb_4.mono HKs1.out.size)
          have HKs2 : Hid (Below w3.heap.size w3 w4) := HKs2.out.trans (hb_4.mono HKs2.out.size)
          clear hb_4
          have HSs3 := Lib.hid hrs3
          obtain ⟨Bs3, ds3, rfl, _⟩ := hrs3
          have HEs3 := Lib.hid HSs3.out.top
          have HKs3 : Hid (Below w4.heap.size w4 w4) := Below.refl _ _
          go_wp2_with fail; ((with_reducible refine (retn HOUT.out HOB.out (specRampRun_any Bs0 Bs1 Bs2 Bs3 ds0 ds1 ds2 ds3 xs0 xs1 xs2 xs3 w4 (HSs0.out.below HKs0.out).reads.1 (HSs1.out.below HKs1.out).reads.1 (HSs2.out.below HKs2.out).reads.1 (HSs3.out.below HKs3.out).reads.1 hl0 hl1 hl2 hl3 HG3.out)).mono ?_); rintro e w5 ⟨vw, rfl, hrw, hb_5⟩); have hz_5 := hb_5.size; (try simp only [World.size_alloc, World.size_setCell, World.size_drew] at hz_5)
          have HB5 : Hid (Below w.heap.size w w5) := HB4.out.trans (hb_5.mono HB4.out.size)
          have HKs0 : Hid (Below w1.heap.size w1 w5) := HKs0.out.trans (hb_5.mono HKs0.out.size)
          have HKs1 : Hid (Below w2.heap.size w2 w5) := HKs1.out.trans (hb_5.mono HKs1.out.size)
          have HKs2 : Hid (Below w3.heap.size w3 w5) := HKs2.out.trans (hb_5.mono HKs2.out.size)
          have HKs3 : Hid (Below w4.heap.size w4 w5) := HKs3.out.trans (hb_5.mono HKs3.out.size)
          clear hb_5
          have HSw := Lib.hid hrw
          obtain ⟨Bw, dw, rfl, _⟩ := hrw
          have HEw := Lib.hid HSw.out.top
          have HKw : Hid (Below w5.heap.size w5 w5) := Below.refl _ _
          go_wp2_with fail; ((with_reducible refine (toUnitS_any A0 c0 xs0 w5 ((HR0.out.below HB5.out (Nat.le_refl _)).more HB5.out.size) hl0).mono ?_); rintro e w6 ⟨vx0, rfl, hrx0, hb_6⟩); have hz_6 := hb_6.size; (try simp only [World.size_alloc, World.size_setCell, World.size_drew] at hz_6)
          have HB6 : Hid (Below w.heap.size w w6) := HB5.out.trans (hb_6.mono HB5.out.size)
          have HKw : Hid (Below w5.heap.size w5 w6) := HKw.out.trans (hb_6.mono HKw.out.size)
          clear hb_6
          have HSx0 := Lib.hid hrx0
          obtain ⟨Bx0, dx0, rfl, _⟩ := hrx0
          have HEx0 := Lib.hid HSx0.out.top
          have HKx0 : Hid (Below w6.heap.size w6 w6) := Below.refl _ _
          go_wp2_with fail; ((with_reducible refine (toIntS_any A1 c1 xs1 w6 ((HR1.out.below HB6.out (Nat.le_refl _)).more HB6.out.size) hl1).mono ?_); rintro e w7 ⟨vx1, rfl, hrx1, hb_7⟩); have hz_7 := hb_7.size; (try simp only [World.size_alloc, World.size_setCell, World.size_drew] at hz_7)
          have HB7 : Hid (Below w.heap.size w w7) := HB6.out.trans (hb_7.mono HB6.out.size)
          have HKw : Hid (Below w5.heap.size w5 w7) := HKw.out.trans (hb_7.mono HKw.out.size)
          have HKx0 : Hid (Below w6.heap.size w6 w7) := HKx0.out.trans (hb_7.mono HKx0.out.size)
          clear hb_7
          have HSx1 := Lib.hid hrx1
          obtain ⟨Bx1, dx1, rfl, _⟩ := hrx1
          have HEx1 := Lib.hid HSx1.out.top
          have HKx1 : Hid (Below w7.heap.size w7 w7) := Below.refl _ _
          go_wp2_with fail; ((with_reducible refine (toIntS_any A2 c2 xs2 w7 ((HR2.out.below HB7.out (Nat.le_refl _)).more HB7.out.size) hl2).mono ?_); rintro e w8 ⟨vx2, rfl, hrx2, hb_8⟩); have hz_8 := hb_8.size; (try simp only [World.size_alloc, World.size_setCell, World.size_drew] at hz_8)
          have HB8 : Hid (Below w.heap.size w w8) := HB7.out.trans (hb_8.mono HB7.out.size)
          have HKw : Hid (Below w5.heap.size w5 w8) := HKw.out.trans (hb_8.mono HKw.out.size)
          have HKx0 : Hid (Below w6.heap.size w6 w8) := HKx0.out.trans (hb_8.mono HKx0.out.size)
          have HKx1 : Hid (Below w7.heap.size w7 w8) := HKx1.out.trans (hb_8.mono HKx1.out.size)
          clear hb_8
          have HSx2 := Lib.hid hrx2
          obtain ⟨Bx2, dx2, rfl, _⟩ := hrx2
          have HEx2 := Lib.hid HSx2.out.top
          have HKx2 : Hid (Below w8.heap.size w8 w8) := Below.refl _ _
          go_wp2_with fail; ((with_reducible refine (toIntS_any A3 c3 xs3 w8 ((HR3.out.below HB8.out (Nat.le_refl _)).more HB8.out.size) hl3).mono ?_); rintro e w9 ⟨vx3, rfl, hrx3, hb_9⟩); have hz_9 := hb_9.size; (try simp only [World.size_alloc, World.size_setCell, World.size_drew] at hz_9)
          have HB9 : Hid (Below w.heap.size w w9) := HB8.out.trans (hb_9.mono HB8.out.size)
          have HKw : Hid (Below w5.heap.size w5 w9) := HKw.out.trans (hb_9.mono HKw.out.size)
          have HKx0 : Hid (Below w6.heap.size w6 w9) := HKx0.out.trans (hb_9.mono HKx0.out.size)
          have HKx1 : Hid (Below w7.heap.size w7 w9) := HKx1.out.trans (hb_9.mono HKx1.out.size)
          have HKx2 : Hid (Below w8.heap.size w8 w9) := HKx2.out.trans (hb_9.mono HKx2.out.size)
          clear hb_9
          have HSx3 := Lib.hid hrx3
          obtain ⟨Bx3, dx3, rfl, _⟩ := hrx3
          have HEx3 := Lib.hid HSx3.out.top
          have HKx3 : Hid (Below w9.heap.size w9 w9) := Below.refl _ _
          go_wp2_with fail; ((with_reducible refine (retn HOUT.out HOB.out (implRampRun_any Bx0 Bx1 Bx2 Bx3 dx0 dx1 dx2 dx3 xs0 xs1 xs2 xs3 w9 (HSx0.out.below HKx0.out).reads.1 (HSx1.out.below HKx1.out).reads.1 (HSx2.out.below HKx2.out).reads.1 (HSx3.out.below HKx3.out).reads.1 hl0 hl1 hl2 hl3 HG3.out)).mono ?_); rintro e w10 ⟨vg, rfl, hrg, hb_10⟩); have hz_10 := hb_10.size; (try simp only [World.size_alloc, World.size_setCell, World.size_drew] at hz_10)
          have HB10 : Hid (Below w.heap.size w w10) := HB9.out.trans (hb_10.mono HB9.out.size)
          have HKw : Hid (Below w5.heap.size w5 w10) := HKw.out.trans (hb_10.mono HKw.out.size)
          have HKx0 : Hid (Below w6.heap.size w6 w10) := HKx0.out.trans (hb_10.mono HKx0.out.size)
          have HKx1 : Hid (Below w7.heap.size w7 w10) := HKx1.out.trans (hb_10.mono HKx1.out.size)
          have HKx2 : Hid (Below w8.heap.size w8 w10) := HKx2.out.trans (hb_10.mono HKx2.out.size)
          have HKx3 : Hid (Below w9.heap.size w9 w10) := HKx3.out.trans (hb_10.mono HKx3.out.size)
          clear hb_10
          have HSg := Lib.hid hrg
          obtain ⟨Bg, dg, rfl, _⟩ := hrg
          have HEg := Lib.hid HSg.out.top
          have HKg : Hid (Below w10.heap.size w10 w10) := Below.refl _ _
          go_wp2_with fail; ((with_reducible refine (eqIntS_any Bg Bw dg dw out w10 (HSg.out.below HKg.out).reads.1 (HSw.out.below HKw.out).reads.1 HOL.out).mono ?_); rintro e w11 ⟨rfl, hb_11⟩); have hz_11 := hb_11.size; (try simp only [World.size_alloc, World.size_setCell, World.size_drew] at hz_11)
          have HB11 : Hid (Below w.heap.size w w11) := HB10.out.trans (hb_11.mono HB10.out.size)
          have HKw : Hid (Below w5.heap.size w5 w11) := HKw.out.trans (hb_11.mono HKw.out.size)
          have HKx0 : Hid (Below w6.heap.size w6 w11) := HKx0.out.trans (hb_11.mono HKx0.out.size)
          have HKx1 : Hid (Below w7.heap.size w7 w11) := HKx1.out.trans (hb_11.mono HKx1.out.size)
          have HKx2 : Hid (Below w8.heap.size w8 w11) := HKx2.out.trans (hb_11.mono HKx2.out.size)
          have HKx3 : Hid (Below w9.heap.size w9 w11) := HKx3.out.trans (hb_11.mono HKx3.out.size)
          have HKg : Hid (Below w10.heap.size w10 w11) := HKg.out.trans (hb_11.mono HKg.out.size)
          clear hb_11
          go_wp2_with fail; ((with_reducible refine (toUnitS_any A0 c0 xs0 w11 ((HR0.out.below HB11.out (Nat.le_refl _)).more HB11.out.size) hl0).mono ?_); rintro e w12 ⟨vy0, rfl, hry0, hb_12⟩); have hz_12 := hb_12.size; (try simp only [World.size_alloc, World.size_setCell, World.size_drew] at hz_12)
          have HB12 : Hid (Below w.heap.size w w12) := HB11.out.trans (hb_12.mono HB11.out.size)
          have HKw : Hid (Below w5.heap.size w5 w12) := HKw.out.trans (hb_12.mono HKw.out.size)
          have HKx0 : Hid (Below w6.heap.size w6 w12) := HKx0.out.trans (hb_12.mono HKx0.out.size)
          have HKx1 : Hid (Below w7.heap.size w7 w12) := HKx1.out.trans (hb_12.mono HKx1.out.size)
          have HKx2 : Hid (Below w8.heap.size w8 w12) := HKx2.out.trans (hb_12.mono HKx2.out.size)
          have HKx3 : Hid (Below w9.heap.size w9 w12) := HKx3.out.trans (hb_12.mono HKx3.out.size)
          have HKg : Hid (Below w10.heap.size w10 w12) := HKg.out.trans (hb_12.mono HKg.out.size)
          clear hb_12
          have HSy0 := Lib.hid hry0
          obtain ⟨By0, dy0, rfl, _⟩ := hry0
          have HEy0 := Lib.hid HSy0.out.top
          have HKy0 : Hid (Below w12.heap.size w12 w12) := Below.refl _ _
          go_wp2_with fail; ((with_reducible refine (eqUnitS_any Bx0 By0 dx0 dy0 xs0 w12 (HSx0.out.below HKx0.out).reads.1 (HSy0.out.below HKy0.out).reads.1 hl0).mono ?_); rintro e w13 ⟨rfl, hb_13⟩); have hz_13 := hb_13.size; (try simp only [World.size_alloc, World.size_setCell, World.size_drew] at hz_13)
          have HB13 : Hid (Below w.heap.size w w13) := HB12.out.trans (hb_13.mono HB12.out.size)
          have HKw : Hid (Below w5.heap.size w5 w13) := HKw.out.trans (hb_13.mono HKw.out.size)
          have HKx0 : Hid (Below w6.heap.size w6 w13) := HKx0.out.trans (hb_13.mono HKx0.out.size)
          have HKx1 : Hid (Below w7.heap.size w7 w13) := HKx1.out.trans (hb_13.mono HKx1.out.size)
          have HKx2 : Hid (Below w8.heap.size w8 w13) := HKx2.out.trans (hb_13.mono HKx2.out.size)
          have HKx3 : Hid (Below w9.heap.size w9 w13) := HKx3.out.trans (hb_13.mono HKx3.out.size)
          have HKg : Hid (Below w10.heap.size w10 w13) := HKg.out.trans (hb_13.mono HKg.out.size)
          have HKy0 : Hid (Below w12.heap.size w12 w13) := HKy0.out.trans (hb_13.mono HKy0.out.size)
          clear hb_13
          go_wp2_with fail; ((with_reducible refine (toIntS_any A1 c1 xs1 w13 ((HR1.out.below HB13.out (Nat.le_refl _)).more HB13.out.size) hl1).mono ?_); rintro e w14 ⟨vy1, rfl, hry1, hb_14⟩); have hz_14 := hb_14.size; (try simp only [World.size_alloc, World.size_setCell, World.size_drew] at hz_14)
          have HB14 : Hid (Below w.heap.size w w14) := HB13.out.trans (hb_14.mono HB13.out.size)
          have HKw : Hid (Below w5.heap.size w5 w14) := HKw.out.trans (hb_14.mono HKw.out.size)
          have HKx0 : Hid (Below w6.heap.size w6 w14) := HKx0.out.trans (hb_14.mono HKx0.out.size)
          have HKx1 : Hid (Below w7.heap.size w7 w14) := HKx1.out.trans (hb_14.mono HKx1.out.size)
          have HKx2 : Hid (Below w8.heap.size w8 w14) := HKx2.out.trans (hb_14.mono HKx2.out.size)
          have HKx3 : Hid (Below w9.heap.size w9 w14) := HKx3.out.trans (hb_14.mono HKx3.out.size)
          have HKg : Hid (Below w10.heap.size w10 w14) := HKg.out.trans (hb_14.mono HKg.out.size)
          clear hb_14
          have HSy1 := Lib.hid hry1
          obtain ⟨By1, dy1, rfl, _⟩ := hry1
          have HEy1 := Lib.hid HSy1.out.top
          have HKy1 : Hid (Below w14.heap.size w14 w14) := Below.refl _ _
          go_wp2_with fail; ((with_reducible refine (eqIntS_any Bx1 By1 dx1 dy1 xs1 w14 (HSx1.out.below HKx1.out).reads.1 (HSy1.out.below HKy1.out).reads.1 hl1).mono ?_); rintro e w15 ⟨rfl, hb_15⟩); have hz_15 := hb_15.size; (try simp only [World.size_alloc, World.size_setCell, World.size_drew] at hz_15)
          have HB15 : Hid (Below w.heap.size w w15) := HB14.out.trans (hb_15.mono HB14.out.size)
          have HKw : Hid (Below w5.heap.size w5 w15) := HKw.out.trans (hb_15.mono HKw.out.size)
          have HKx0 : Hid (Below w6.heap.size w6 w15) := HKx0.out.trans (hb_15.mono HKx0.out.size)
          have HKx1 : Hid (Below w7.heap.size w7 w15) := HKx1.out.trans (hb_15.mono HKx1.out.size)
          have HKx2 : Hid (Below w8.heap.size w8 w15) := HKx2.out.trans (hb_15.mono HKx2.out.size)
          have HKx3 : Hid (Below w9.heap.size w9 w15) := HKx3.out.trans (hb_15.mono HKx3.out.size)
          have HKg : Hid (Below w10.heap.size w10 w15) := HKg.out.trans (hb_15.mono HKg.out.size)
          have HKy1 : Hid (Below w14.heap.size w14 w15) := HKy1.out.trans (hb_15.mono HKy1.out.size)
          clear hb_15
          go_wp2_with fail; ((with_reducible refine (toIntS_any A2 c2 xs2 w15 ((HR2.out.below HB15.out (Nat.le_refl _)).more HB15.out.size) hl2).mono ?_); rintro e w16 ⟨vy2, rfl, hry2, hb_16⟩); have hz_16 := hb_16.size; (try simp only [World.size_alloc, World.size_setCell, World.size_drew] at hz_16)
          have HB16 : Hid (Below w.heap.size w w16) := HB15.out.trans (hb_16.mono HB15.out.size)
          have HKw : Hid (Below w5.heap.size w5 w16) := HKw.out.trans (hb_16.mono HKw.out.size)
          have HKx0 : Hid (Below w6.heap.size w6 w16) := HKx0.out.trans (hb_16.mono HKx0.out.size)
          have HKx1 : Hid (Below w7.heap.size w7 w16) := HKx1.out.trans (hb_16.mono HKx1.out.size)
          have HKx2 : Hid (Below w8.heap.size w8 w16) := HKx2.out.trans (hb_16.mono HKx2.out.size)
          have HKx3 : Hid (Below w9.heap.size w9 w16) := HKx3.out.trans (hb_16.mono HKx3.out.size)
          have HKg : Hid (Below w10.heap.size w10 w16) := HKg.out.trans (hb_16.mono HKg.out.size)
          clear hb_16
          have HSy2 := Lib.hid hry2
          obtain ⟨By2, dy2, rfl, _⟩ := hry2
          have HEy2 := Lib.hid HSy2.out.top
          have HKy2 : Hid (Below w16.heap.size w16 w16) := Below.refl _ _
          go_wp2_with fail; ((with_reducible refine (eqIntS_any Bx2 By2 dx2 dy2 xs2 w16 (HSx2.out.below HKx2.out).reads.1 (HSy2.out.below HKy2.out).reads.1 hl2).mono ?_); rintro e w17 ⟨rfl, hb_17⟩); have hz_17 := hb_17.size; (try simp only [World.size_alloc, World.size_setCell, World.size_drew] at hz_17)
          have HB17 : Hid (Below w.heap.size w w17) := HB16.out.trans (hb_17.mono HB16.out.size)
          have HKw : Hid (Below w5.heap.size w5 w17) := HKw.out.trans (hb_17.mono HKw.out.size)
          have HKx0 : Hid (Below w6.heap.size w6 w17) := HKx0.out.trans (hb_17.mono HKx0.out.size)
          have HKx1 : Hid (Below w7.heap.size w7 w17) := HKx1.out.trans (hb_17.mono HKx1.out.size)
          have HKx2 : Hid (Below w8.heap.size w8 w17) := HKx2.out.trans (hb_17.mono HKx2.out.size)
          have HKx3 : Hid (Below w9.heap.size w9 w17) := HKx3.out.trans (hb_17.mono HKx3.out.size)
          have HKg : Hid (Below w10.heap.size w10 w17) := HKg.out.trans (hb_17.mono HKg.out.size)
          have HKy2 : Hid (Below w16.heap.size w16 w17) := HKy2.out.trans (hb_17.mono HKy2.out.size)
          clear hb_17
          go_wp2_with fail; ((with_reducible refine (toIntS_any A3 c3 xs3 w17 ((HR3.out.below HB17.out (Nat.le_refl _)).more HB17.out.size) hl3).mono ?_); rintro e w18 ⟨vy3, rfl, hry3, hb_18⟩); have hz_18 := hb_18.size; (try simp only [World.size_alloc, World.size_setCell, World.size_drew] at hz_18)
          have HB18 : Hid (Below w.heap.size w w18) := HB17.out.trans (hb_18.mono HB17.out.size)
          have HKw : Hid (Below w5.heap.size w5 w18) := HKw.out.trans (hb_18.mono HKw.out.size)
          have HKx0 : Hid (Below w6.heap.size w6 w18) := HKx0.out.trans (hb_18.mono HKx0.out.size)
          have HKx1 : Hid (Below w7.heap.size w7 w18) := HKx1.out.trans (hb_18.mono HKx1.out.size)
          have HKx2 : Hid (Below w8.heap.size w8 w18) := HKx2.out.trans (hb_18.mono HKx2.out.size)
          have HKx3 : Hid (Below w9.heap.size w9 w18) := HKx3.out.trans (hb_18.mono HKx3.out.size)
          have HKg : Hid (Below w10.heap.size w10 w18) := HKg.out.trans (hb_18.mono HKg.out.size)
          clear hb_18
          have HSy3 := Lib.hid hry3
          obtain ⟨By3, dy3, rfl, _⟩ := hry3
          have HEy3 := Lib.hid HSy3.out.top
          have HKy3 : Hid (Below w18.heap.size w18 w18) := Below.refl _ _
          go_wp2_with fail; ((with_reducible refine (eqIntS_any Bx3 By3 dx3 dy3 xs3 w18 (HSx3.out.below HKx3.out).reads.1 (HSy3.out.below HKy3.out).reads.1 hl3).mono ?_); rintro e w19 ⟨rfl, hb_19⟩); have hz_19 := hb_19.size; (try simp only [World.size_alloc, World.size_setCell, World.size_drew] at hz_19)
          have HB19 : Hid (Below w.heap.size w w19) := HB18.out.trans (hb_19.mono HB18.out.size)
          have HKw : Hid (Below w5.heap.size w5 w19) := HKw.out.trans (hb_19.mono HKw.out.size)
          have HKx0 : Hid (Below w6.heap.size w6 w19) := HKx0.out.trans (hb_19.mono HKx0.out.size)
          have HKx1 : Hid (Below w7.heap.size w7 w19) := HKx1.out.trans (hb_19.mono HKx1.out.size)
          have HKx2 : Hid (Below w8.heap.size w8 w19) := HKx2.out.trans (hb_19.mono HKx2.out.size)
          have HKx3 : Hid (Below w9.heap.size w9 w19) := HKx3.out.trans (hb_19.mono HKx3.out.size)
          have HKg : Hid (Below w10.heap.size w10 w19) := HKg.out.trans (hb_19.mono HKg.out.size)
          have HKy3 : Hid (Below w18.heap.size w18 w19) := HKy3.out.trans (hb_19.mono HKy3.out.size)
          clear hb_19
          obtain ⟨M1, hM1⟩ : ∃ M : Int, 1 + ((xs0.length * 4 : Nat) : Int) = M := ⟨_, rfl⟩
          have hM1a : 1 ≤ M1 ∧ M1 ≤ 1 + 4194304 := by have := hl0; omega
          obtain ⟨hM1a, hM1b⟩ := hM1a
          have HM1 := Lib.hid hM1; clear hM1
          go_wp2_with fail; ((with_reducible refine (markUnitS_any (.slice Bx0 xs0.length dx0) (1) xs0 w19 _ _ (HSx0.out.below HKx0.out) HEx0.out hl0 (by omega) (by omega) M1 HM1.out).mono ?_); rintro e w20 ⟨rfl, hk_1, hs_1⟩)
          have hzz_1 := hk_1.size
          have HB20 : Hid (Below w.heap.size w w20) := HB19.out.trans (hk_1.below (by have := HB19.out.size; omega))
          have HKw : Hid (Below w5.heap.size w5 w20) := HKw.out.trans (hk_1.below (by omega))
          have HSx1 := Lib.hid ((HSx1.out.below HKx1.out).mk_up hk_1 (by omega))
          have HKx1 : Hid (Below w20.heap.size w20 w20) := Below.refl _ _
          have HSx2 := Lib.hid ((HSx2.out.below HKx2.out).mk_up hk_1 (by omega))
          have HKx2 : Hid (Below w20.heap.size w20 w20) := Below.refl _ _
          have HSx3 := Lib.hid ((HSx3.out.below HKx3.out).mk_up hk_1 (by omega))
          have HKx3 : Hid (Below w20.heap.size w20 w20) := Below.refl _ _
          have HSg := Lib.hid ((HSg.out.below HKg.out).mk_up hk_1 (by omega))
          have HKg : Hid (Below w20.heap.size w20 w20) := Below.refl _ _
          have HSx0 := Lib.hid hs_1
          have HKx0 : Hid (Below w20.heap.size w20 w20) := Below.refl _ _
          clear hs_1 hk_1
          obtain ⟨M2, hM2⟩ : ∃ M : Int, M1 + ((xs1.length * 1 : Nat) : Int) = M := ⟨_, rfl⟩
          have hM2a : 1 ≤ M2 ∧ M2 ≤ M1 + 4194304 := by have := hl1; omega
          obtain ⟨hM2a, hM2b⟩ := hM2a
          have HM2 := Lib.hid hM2; clear hM2
          go_wp2_with fail; ((with_reducible refine (markIntS_any (.slice Bx1 xs1.length dx1) (M1) xs1 w20 _ _ (HSx1.out.below HKx1.out) HEx1.out hl1 (by omega) (by omega) M2 HM2.out).mono ?_); rintro e w21 ⟨rfl, hk_2, hs_2⟩)
          have hzz_2 := hk_2.size
          have HB21 : Hid (Below w.heap.size w w21) := HB20.out.trans (hk_2.below (by have := HB20.out.size; omega))
          have HKw : Hid (Below w5.heap.size w5 w21) := HKw.out.trans (hk_2.below (by omega))
          have HSx2 := Lib.hid ((HSx2.out.below HKx2.out).mk_up hk_2 (by omega))
          have HKx2 : Hid (Below w21.heap.size w21 w21) := Below.refl _ _
          have HSx3 := Lib.hid ((HSx3.out.below HKx3.out).mk_up hk_2 (by omega))
          have HKx3 : Hid (Below w21.heap.size w21 w21) := Below.refl _ _
          have HSg := Lib.hid ((HSg.out.below HKg.out).mk_up hk_2 (by omega))
          have HKg : Hid (Below w21.heap.size w21 w21) := Below.refl _ _
          have HSx1 := Lib.hid hs_2
          have HKx1 : Hid (Below w21.heap.size w21 w21) := Below.refl _ _
          clear hs_2 hk_2
          obtain ⟨M3, hM3⟩ : ∃ M : Int, M2 + ((xs2.length * 1 : Nat) : Int) = M := ⟨_, rfl⟩
          have hM3a : 1 ≤ M3 ∧ M3 ≤ M2 + 4194304 := by have := hl2; omega
          obtain ⟨hM3a, hM3b⟩ := hM3a
          have HM3 := Lib.hid hM3; clear hM3
          go_wp2_with fail; ((with_reducible refine (markIntS_any (.slice Bx2 xs2.length dx2) (M2) xs2 w21 _ _ (HSx2.out.below HKx2.out) HEx2.out hl2 (by omega) (by omega) M3 HM3.out).mono ?_); rintro e w22 ⟨rfl, hk_3, hs_3⟩)
          have hzz_3 := hk_3.size
          have HB22 : Hid (Below w.heap.size w w22) := HB21.out.trans (hk_3.below (by have := HB21.out.size; omega))
          have HKw : Hid (Below w5.heap.size w5 w22) := HKw.out.trans (hk_3.below (by omega))
          have HSx3 := Lib.hid ((HSx3.out.below HKx3.out).mk_up hk_3 (by omega))
          have HKx3 : Hid (Below w22.heap.size w22 w22) := Below.refl _ _
          have HSg := Lib.hid ((HSg.out.below HKg.out).mk_up hk_3 (by omega))
          have HKg : Hid (Below w22.heap.size w22 w22) := Below.refl _ _
          have HSx2 := Lib.hid hs_3
          have HKx2 : Hid (Below w22.heap.size w22 w22) := Below.refl _ _
          clear hs_3 hk_3
          obtain ⟨M4, hM4⟩ : ∃ M : Int, M3 + ((xs3.length * 1 : Nat) : Int) = M := ⟨_, rfl⟩
          have hM4a : 1 ≤ M4 ∧ M4 ≤ M3 + 4194304 := by have := hl3; omega
          obtain ⟨hM4a, hM4b⟩ := hM4a
          have HM4 := Lib.hid hM4; clear hM4
          go_wp2_with fail; ((with_reducible refine (markIntS_any (.slice Bx3 xs3.length dx3) (M3) xs3 w22 _ _ (HSx3.out.below HKx3.out) HEx3.out hl3 (by omega) (by omega) M4 HM4.out).mono ?_); rintro e w23 ⟨rfl, hk_4, hs_4⟩)
          have hzz_4 := hk_4.size
          have HB23 : Hid (Below w.heap.size w w23) := HB22.out.trans (hk_4.below (by have := HB22.out.size; omega))
          have HKw : Hid (Below w5.heap.size w5 w23) := HKw.out.trans (hk_4.below (by omega))
          have HSg := Lib.hid ((HSg.out.below HKg.out).mk_up hk_4 (by omega))
          have HKg : Hid (Below w23.heap.size w23 w23) := Below.refl _ _
          have HSx3 := Lib.hid hs_4
          have HKx3 : Hid (Below w23.heap.size w23 w23) := Below.refl _ _
          clear hs_4 hk_4
          go_wp2_with fail; ((with_reducible refine (eqIntS_any Bg Bw dg dw out w23 (HSg.out.below HKg.out).reads.1 (HSw.out.below HKw.out).reads.1 HOL.out).mono ?_); rintro e w24 ⟨rfl, hb_20⟩); have hz_20 := hb_20.size; (try simp only [World.size_alloc, World.size_setCell, World.size_drew] at hz_20)
          have HB24 : Hid (Below w.heap.size w w24) := HB23.out.trans (hb_20.mono HB23.out.size)
          have HKw : Hid (Below w5.heap.size w5 w24) := HKw.out.trans (hb_20.mono HKw.out.size)
          have HKg : Hid (Below w23.heap.size w23 w24) := HKg.out.trans (hb_20.mono HKg.out.size)
          clear hb_20
          obtain ⟨M5, hM5⟩ : ∃ M : Int, 1 + ((out.length * 1 : Nat) : Int) = M := ⟨_, rfl⟩
          have hM5a : 1 ≤ M5 ∧ M5 ≤ 1 + 4194304 := by have := HOL.out; omega
          obtain ⟨hM5a, hM5b⟩ := hM5a
          have HM5 := Lib.hid hM5; clear hM5
          go_wp2_with fail; ((with_reducible refine (markIntS_any (.slice Bg out.length dg) (1) out w24 _ _ (HSg.out.below HKg.out) HEg.out HOL.out (by omega) (by omega) M5 HM5.out).mono ?_); rintro e w25 ⟨rfl, hk_5, hs_5⟩)
          have hzz_5 := hk_5.size
          have HB25 : Hid (Below w.heap.size w w25) := HB24.out.trans (hk_5.below (by have := HB24.out.size; omega))
          have HKw : Hid (Below w5.heap.size w5 w25) := HKw.out.trans (hk_5.below (by omega))
          have HSg := Lib.hid hs_5
          have HKg : Hid (Below w25.heap.size w25 w25) := Below.refl _ _
          clear hs_5 hk_5
          go_wp2_with fail; ((with_reducible refine (heldIntS_any (.slice Bg out.length dg) 1 out.length w25 _ (HSg.out.below HKg.out) HOL.out (by omega) (by omega) M5 HM5.out).mono ?_); rintro e w26 ⟨rfl, hb_21⟩); have hz_21 := hb_21.size; (try simp only [World.size_alloc, World.size_setCell, World.size_drew] at hz_21)
          have HB26 : Hid (Below w.heap.size w w26) := HB25.out.trans (hb_21.mono HB25.out.size)
          have HKw : Hid (Below w5.heap.size w5 w26) := HKw.out.trans (hb_21.mono HKw.out.size)
          have HKg : Hid (Below w25.heap.size w25 w26) := HKg.out.trans (hb_21.mono HKg.out.size)
          clear hb_21
          go_wp2_with fail; ((with_reducible refine (toUnitS_any A0 c0 xs0 w26 ((HR0.out.below HB26.out (Nat.le_refl _)).more HB26.out.size) hl0).mono ?_); rintro e w27 ⟨vz0, rfl, hrz0, hb_22⟩); have hz_22 := hb_22.size; (try simp only [World.size_alloc, World.size_setCell, World.size_drew] at hz_22)
          have HB27 : Hid (Below w.heap.size w w27) := HB26.out.trans (hb_22.mono HB26.out.size)
          have HKw : Hid (Below w5.heap.size w5 w27) := HKw.out.trans (hb_22.mono HKw.out.size)
          have HKg : Hid (Below w25.heap.size w25 w27) := HKg.out.trans (hb_22.mono HKg.out.size)
          clear hb_22
          have HSz0 := Lib.hid hrz0
          obtain ⟨Bz0, dz0, rfl, _⟩ := hrz0
          have HEz0 := Lib.hid HSz0.out.top
          have HKz0 : Hid (Below w27.heap.size w27 w27) := Below.refl _ _
          go_wp2_with fail; ((with_reducible refine (toIntS_any A1 c1 xs1 w27 ((HR1.out.below HB27.out (Nat.le_refl _)).more HB27.out.size) hl1).mono ?_); rintro e w28 ⟨vz1, rfl, hrz1, hb_23⟩); have hz_23 := hb_23.size; (try simp only [World.size_alloc, World.size_setCell, World.size_drew] at hz_23)
          have HB28 : Hid (Below w.heap.size w w28) := HB27.out.trans (hb_23.mono HB27.out.size)
          have HKw : Hid (Below w5.heap.size w5 w28) := HKw.out.trans (hb_23.mono HKw.out.size)
          have HKg : Hid (Below w25.heap.size w25 w28) := HKg.out.trans (hb_23.mono HKg.out.size)
          have HKz0 : Hid (Below w27.heap.size w27 w28) := HKz0.out.trans (hb_23.mono HKz0.out.size)
          clear hb_23
          have HSz1 := Lib.hid hrz1
          obtain ⟨Bz1, dz1, rfl, _⟩ := hrz1
          have HEz1 := Lib.hid HSz1.out.top
          have HKz1 : Hid (Below w28.heap.size w28 w28) := Below.refl _ _
          go_wp2_with fail; ((with_reducible refine (toIntS_any A2 c2 xs2 w28 ((HR2.out.below HB28.out (Nat.le_refl _)).more HB28.out.size) hl2).mono ?_); rintro e w29 ⟨vz2, rfl, hrz2, hb_24⟩); have hz_24 := hb_24.size; (try simp only [World.size_alloc, World.size_setCell, World.size_drew] at hz_24)
          have HB29 : Hid (Below w.heap.size w w29) := HB28.out.trans (hb_24.mono HB28.out.size)
          have HKw : Hid (Below w5.heap.size w5 w29) := HKw.out.trans (hb_24.mono HKw.out.size)
          have HKg : Hid (Below w25.heap.size w25 w29) := HKg.out.trans (hb_24.mono HKg.out.size)
          have HKz0 : Hid (Below w27.heap.size w27 w29) := HKz0.out.trans (hb_24.mono HKz0.out.size)
          have HKz1 : Hid (Below w28.heap.size w28 w29) := HKz1.out.trans (hb_24.mono HKz1.out.size)
          clear hb_24
          have HSz2 := Lib.hid hrz2
          obtain ⟨Bz2, dz2, rfl, _⟩ := hrz2
          have HEz2 := Lib.hid HSz2.out.top
          have HKz2 : Hid (Below w29.heap.size w29 w29) := Below.refl _ _
          go_wp2_with fail; ((with_reducible refine (toIntS_any A3 c3 xs3 w29 ((HR3.out.below HB29.out (Nat.le_refl _)).more HB29.out.size) hl3).mono ?_); rintro e w30 ⟨vz3, rfl, hrz3, hb_25⟩); have hz_25 := hb_25.size; (try simp only [World.size_alloc, World.size_setCell, World.size_drew] at hz_25)
          have HB30 : Hid (Below w.heap.size w w30) := HB29.out.trans (hb_25.mono HB29.out.size)
          have HKw : Hid (Below w5.heap.size w5 w30) := HKw.out.trans (hb_25.mono HKw.out.size)
          have HKg : Hid (Below w25.heap.size w25 w30) := HKg.out.trans (hb_25.mono HKg.out.size)
          have HKz0 : Hid (Below w27.heap.size w27 w30) := HKz0.out.trans (hb_25.mono HKz0.out.size)
          have HKz1 : Hid (Below w28.heap.size w28 w30) := HKz1.out.trans (hb_25.mono HKz1.out.size)
          have HKz2 : Hid (Below w29.heap.size w29 w30) := HKz2.out.trans (hb_25.mono HKz2.out.size)
          clear hb_25
          have HSz3 := Lib.hid hrz3
          obtain ⟨Bz3, dz3, rfl, _⟩ := hrz3
          have HEz3 := Lib.hid HSz3.out.top
          have HKz3 : Hid (Below w30.heap.size w30 w30) := Below.refl _ _
          go_wp2_with fail; ((with_reducible refine (retn HOUT.out HOB.out (implRampRun_any Bz0 Bz1 Bz2 Bz3 dz0 dz1 dz2 dz3 xs0 xs1 xs2 xs3 w30 (HSz0.out.below HKz0.out).reads.1 (HSz1.out.below HKz1.out).reads.1 (HSz2.out.below HKz2.out).reads.1 (HSz3.out.below HKz3.out).reads.1 hl0 hl1 hl2 hl3 HG3.out)).mono ?_); rintro e w31 ⟨vh, rfl, hrh, hb_26⟩); have hz_26 := hb_26.size; (try simp only [World.size_alloc, World.size_setCell, World.size_drew] at hz_26)
          have HB31 : Hid (Below w.heap.size w w31) := HB30.out.trans (hb_26.mono HB30.out.size)
          have HKw : Hid (Below w5.heap.size w5 w31) := HKw.out.trans (hb_26.mono HKw.out.size)
          have HKg : Hid (Below w25.heap.size w25 w31) := HKg.out.trans (hb_26.mono HKg.out.size)
          have HKz0 : Hid (Below w27.heap.size w27 w31) := HKz0.out.trans (hb_26.mono HKz0.out.size)
          have HKz1 : Hid (Below w28.heap.size w28 w31) := HKz1.out.trans (hb_26.mono HKz1.out.size)
          have HKz2 : Hid (Below w29.heap.size w29 w31) := HKz2.out.trans (hb_26.mono HKz2.out.size)
          have HKz3 : Hid (Below w30.heap.size w30 w31) := HKz3.out.trans (hb_26.mono HKz3.out.size)
          clear hb_26
          have HSh := Lib.hid hrh
          obtain ⟨Bh, dh, rfl, _⟩ := hrh
          have HEh := Lib.hid HSh.out.top
          have HKh : Hid (Below w31.heap.size w31 w31) := Below.refl _ _
          go_wp2_with fail; ((with_reducible refine (eqIntS_any Bh Bw dh dw out w31 (HSh.out.below HKh.out).reads.1 (HSw.out.below HKw.out).reads.1 HOL.out).mono ?_); rintro e w32 ⟨rfl, hb_27⟩); have hz_27 := hb_27.size; (try simp only [World.size_alloc, World.size_setCell, World.size_drew] at hz_27)
          have HB32 : Hid (Below w.heap.size w w32) := HB31.out.trans (hb_27.mono HB31.out.size)
          have HKw : Hid (Below w5.heap.size w5 w32) := HKw.out.trans (hb_27.mono HKw.out.size)
          have HKg : Hid (Below w25.heap.size w25 w32) := HKg.out.trans (hb_27.mono HKg.out.size)
          have HKh : Hid (Below w31.heap.size w31 w32) := HKh.out.trans (hb_27.mono HKh.out.size)
          clear hb_27
          go_wp2_with fail; ((with_reducible refine (heldIntS_any (.slice Bg out.length dg) 1 out.length w32 _ (HSg.out.below HKg.out) HOL.out (by omega) (by omega) M5 HM5.out).mono ?_); rintro e w33 ⟨rfl, hb_28⟩); have hz_28 := hb_28.size; (try simp only [World.size_alloc, World.size_setCell, World.size_drew] at hz_28)
          have HB33 : Hid (Below w.heap.size w w33) := HB32.out.trans (hb_28.mono HB32.out.size)
          have HKw : Hid (Below w5.heap.size w5 w33) := HKw.out.trans (hb_28.mono HKw.out.size)
          have HKg : Hid (Below w25.heap.size w25 w33) := HKg.out.trans (hb_28.mono HKg.out.size)
          have HKh : Hid (Below w31.heap.size w31 w33) := HKh.out.trans (hb_28.mono HKh.out.size)
          clear hb_28
          go_wp2
          go_ret
          exact ⟨rfl, HB33.out⟩
        · go_enter Try.func13, Try.ntmps13
          go_wp2_with fail
          refine (szUnitS_any A0 xs0.length c0 _ _ (by omega) (by omega) (by omega)).mono ?_
          rintro e w0 ⟨rfl, rfl⟩
          rw [if_neg (by omega)]
          go_wp2_with fail
          go_ret
          exact ⟨rfl, Below.refl _ _⟩
      · have hl3' : (1048576 : Int) < xs3.length := by omega
        go_enter Try.func13, Try.ntmps13
        go_wp2_with fail
        go_ret
        exact ⟨rfl, Below.refl _ _⟩
    · have hl2' : (1048576 : Int) < xs2.length := by omega
      go_enter Try.func13, Try.ntmps13
      go_wp2_with fail
      go_ret
      exact ⟨rfl, Below.refl _ _⟩
  · have hl1' : (1048576 : Int) < xs1.length := by omega
    go_enter Try.func13, Try.ntmps13
    go_wp2_with fail
    go_ret
    exact ⟨rfl, Below.refl _ _⟩
end Go.Proofs.Ytcmcoemlccpldaa
