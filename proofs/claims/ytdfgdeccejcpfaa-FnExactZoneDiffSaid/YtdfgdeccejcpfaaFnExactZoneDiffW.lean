/- laws.FnExactZoneDiff: its walk: every call returns true, whatever the input. -/
import Derived.Test.YtdfgdeccejcpfaaZe
import Derived.Test.YtdfgdeccejcpfaaZd
import Derived.Test.YtdfgdeccejcpfaaSlNet
namespace Go.Proofs.Ytdfgdeccejcpfaa
open Go.RowKit
set_option linter.unusedSimpArgs false
set_option linter.unusedVariables false

set_option maxHeartbeats 4000000 in
theorem fnExactZoneDiff_any (B0 : Int) (A0 : Option Addr) (n0 c0 : Nat) (xs0 : List R3) (A1 : Option Addr) (n1 c1 : Nat) (xs1 : List Bool) (A2 : Option Addr) (n2 c2 : Nat) (xs2 : List R2) (A3 : Option Addr) (n3 c3 : Nat) (xs3 : List Int) (A4 : Option Addr) (n4 c4 : Nat) (xs4 : List Int) (w : World) (hB0 : I64 B0) (hn0 : xs0.length = n0) (hg0 : ∀ x ∈ xs0, G3 x) (hnc0 : n0 ≤ c0) (hcm0 : c0 ≤ maxLen) (hR0 : Reads 3 r3C w w.heap.size A0 xs0) (hn1 : xs1.length = n1) (hg1 : ∀ x ∈ xs1, True) (hnc1 : n1 ≤ c1) (hcm1 : c1 ≤ maxLen) (hR1 : Reads 1 boolC w w.heap.size A1 xs1) (hn2 : xs2.length = n2) (hg2 : ∀ x ∈ xs2, G2 x) (hnc2 : n2 ≤ c2) (hcm2 : c2 ≤ maxLen) (hR2 : Reads 2 r2C w w.heap.size A2 xs2) (hn3 : xs3.length = n3) (hg3 : ∀ x ∈ xs3, I64 x) (hnc3 : n3 ≤ c3) (hcm3 : c3 ≤ maxLen) (hR3 : Reads 1 intC w w.heap.size A3 xs3) (hn4 : xs4.length = n4) (hg4 : ∀ x ∈ xs4, I64 x) (hnc4 : n4 ≤ c4) (hcm4 : c4 ≤ maxLen) (hR4 : Reads 1 intC w w.heap.size A4 xs4) :
    Calls Try.prog 6 #[.agg #[.int .i64 B0, .slice A0 n0 c0], .slice A1 n1 c1, .slice A2 n2 c2, .slice A3 n3 c3, .slice A4 n4 c4] w fun e w' => e = .returned (.bool true) ∧ Below w.heap.size w w' := by
  unfold maxLen at hcm0 hcm1 hcm2 hcm3 hcm4
  subst hn0 hn1 hn2 hn3 hn4
  have HR0 := Lib.hid hR0; clear hR0
  have HG0 := Lib.hid hg0; clear hg0
  have HR1 := Lib.hid hR1; clear hR1
  have HG1 := Lib.hid hg1; clear hg1
  have HR2 := Lib.hid hR2; clear hR2
  have HG2 := Lib.hid hg2; clear hg2
  have HR3 := Lib.hid hR3; clear hR3
  have HG3 := Lib.hid hg3; clear hg3
  have HR4 := Lib.hid hR4; clear hR4
  have HG4 := Lib.hid hg4; clear hg4
  have hnn : ∀ x : Int, (x != x) = false := fun x => by simp
  have hbb : ∀ x : Bool, (x != x) = false := fun x => by simp
  by_cases hl1 : xs1.length ≤ 1048576
  · have hl1' : ¬ (1048576 : Int) < xs1.length := by omega
    by_cases hl3 : xs3.length ≤ 1048576
    · have hl3' : ¬ (1048576 : Int) < xs3.length := by omega
      by_cases hl4 : xs4.length ≤ 1048576
      · have hl4' : ¬ (1048576 : Int) < xs4.length := by omega
        by_cases hs0 : (xs0.length : Int) ≤ 1048576
        · have hl0 : xs0.length ≤ 1048576 := by omega
          have hd0 : (0 : Int) ≤ 1048576 - xs0.length := by omega
          by_cases hs2 : (xs2.length : Int) ≤ 1048576 - (xs0.length : Int)
          · have hl2 : xs2.length ≤ 1048576 := by omega
            have hd2 : (0 : Int) ≤ 1048576 - (xs0.length : Int) - xs2.length := by omega
            go_enter Try.func6, Try.ntmps6
            go_wp2_with fail
            refine (szNet_any B0 A0 xs0.length c0 _ _ (by omega) (by omega) (by omega)).mono ?_
            rintro e z0 ⟨rfl, hz0⟩
            have HZ0 := Lib.hid hz0; clear hz0
            have cQ := ((Bk.new w 24 #[.int .i64 B0, .slice A0 xs0.length c0]).keep HZ0.out).cell
            rw [if_pos (by omega)]
            go_wp2_with fail
            refine (szBusS_any A2 xs2.length c2 _ _ (by omega) (by omega) (by omega)).mono ?_
            rintro e w0 ⟨rfl, rfl⟩
            rw [if_pos (by omega)]
            have HB0 : Hid (Below w.heap.size w z0) := by unfold Hid; have hz0 := HZ0.out; (repeat' (first | (with_reducible exact Below.refl _ _) | (with_reducible refine Below.alloc ?_ ?_ _) | (with_reducible refine Below.setCell ?_ ?_ _) | (with_reducible refine Below.drew ?_) | (refine Below.trans ?_ (Below.mono (by with_reducible assumption) ?_)) | go_size))
            have HP : Hid (Bk z0 w.heap.size 24 #[.int .i64 B0, .slice A0 xs0.length c0]) := (Bk.new _ _ _).keep HZ0.out
            have cP := HP.out.cell
            go_wp2_with fail; ((with_reducible refine (toNet_any B0 A0 c0 xs0 _ ((HR0.out.below HB0.out (Nat.le_refl _)).more HB0.out.size) hl0).mono ?_); rintro e w1 ⟨vs0, rfl, hrs0, hb_1⟩); have hz_1 := hb_1.size; (try simp only [World.size_alloc, World.size_setCell, World.size_drew] at hz_1)
            have HB1 : Hid (Below w.heap.size w w1) := HB0.out.trans (hb_1.mono HB0.out.size)
            have HP := Lib.hid (HP.out.keep hb_1); clear cP; have cP := HP.out.cell
            clear hb_1 hz_1
            have HSs0 := Lib.hid hrs0
            obtain ⟨Bs0, ds0, rfl, _⟩ := hrs0
            have HKs0 : Hid (Below w1.heap.size w1 w1) := Below.refl _ _
            go_wp2_with fail; ((with_reducible refine (toBoolS_any A1 c1 xs1 _ ((HR1.out.below HB1.out (Nat.le_refl _)).more HB1.out.size) hl1).mono ?_); rintro e w2 ⟨vs1, rfl, hrs1, hb_2⟩); have hz_2 := hb_2.size; (try simp only [World.size_alloc, World.size_setCell, World.size_drew] at hz_2)
            have HB2 : Hid (Below w.heap.size w w2) := HB1.out.trans (hb_2.mono HB1.out.size)
            have HKs0 : Hid (Below w1.heap.size w1 w2) := HKs0.out.trans (hb_2.mono HKs0.out.size)
            have HP := Lib.hid (HP.out.keep hb_2); clear cP; have cP := HP.out.cell
            clear hb_2 hz_2
            have HSs1 := Lib.hid hrs1
            obtain ⟨Bs1, ds1, rfl, _⟩ := hrs1
            have HKs1 : Hid (Below w2.heap.size w2 w2) := Below.refl _ _
            go_wp2_with fail; ((with_reducible refine (toBusS_any A2 c2 xs2 _ ((HR2.out.below HB2.out (Nat.le_refl _)).more HB2.out.size) hl2).mono ?_); rintro e w3 ⟨vs2, rfl, hrs2, hb_3⟩); have hz_3 := hb_3.size; (try simp only [World.size_alloc, World.size_setCell, World.size_drew] at hz_3)
            have HB3 : Hid (Below w.heap.size w w3) := HB2.out.trans (hb_3.mono HB2.out.size)
            have HKs0 : Hid (Below w1.heap.size w1 w3) := HKs0.out.trans (hb_3.mono HKs0.out.size)
            have HKs1 : Hid (Below w2.heap.size w2 w3) := HKs1.out.trans (hb_3.mono HKs1.out.size)
            have HP := Lib.hid (HP.out.keep hb_3); clear cP; have cP := HP.out.cell
            clear hb_3 hz_3
            have HSs2 := Lib.hid hrs2
            obtain ⟨Bs2, ds2, rfl, _⟩ := hrs2
            have HKs2 : Hid (Below w3.heap.size w3 w3) := Below.refl _ _
            go_wp2_with fail; ((with_reducible refine (toIntS_any A3 c3 xs3 _ ((HR3.out.below HB3.out (Nat.le_refl _)).more HB3.out.size) hl3).mono ?_); rintro e w4 ⟨vs3, rfl, hrs3, hb_4⟩); have hz_4 := hb_4.size; (try simp only [World.size_alloc, World.size_setCell, World.size_drew] at hz_4)
            have HB4 : Hid (Below w.heap.size w w4) := HB3.out.trans (hb_4.mono HB3.out.size)
            have HKs0 : Hid (Below w1.heap.size w1 w4) := HKs0.out.trans (hb_4.mono HKs0.out.size)
            have HKs1 : Hid (Below w2.heap.size w2 w4) := HKs1.out.trans (hb_4.mono HKs1.out.size)
            have HKs2 : Hid (Below w3.heap.size w3 w4) := HKs2.out.trans (hb_4.mono HKs2.out.size)
            have HP := Lib.hid (HP.out.keep hb_4); clear cP; have cP := HP.out.cell
            clear hb_4 hz_4
            have HSs3 := Lib.hid hrs3
            obtain ⟨Bs3, ds3, rfl, _⟩ := hrs3
            have HKs3 : Hid (Below w4.heap.size w4 w4) := Below.refl _ _
            go_wp2_with fail; ((with_reducible refine (toIntS_any A4 c4 xs4 _ ((HR4.out.below HB4.out (Nat.le_refl _)).more HB4.out.size) hl4).mono ?_); rintro e w5 ⟨vs4, rfl, hrs4, hb_5⟩); have hz_5 := hb_5.size; (try simp only [World.size_alloc, World.size_setCell, World.size_drew] at hz_5)
            have HB5 : Hid (Below w.heap.size w w5) := HB4.out.trans (hb_5.mono HB4.out.size)
            have HKs0 : Hid (Below w1.heap.size w1 w5) := HKs0.out.trans (hb_5.mono HKs0.out.size)
            have HKs1 : Hid (Below w2.heap.size w2 w5) := HKs1.out.trans (hb_5.mono HKs1.out.size)
            have HKs2 : Hid (Below w3.heap.size w3 w5) := HKs2.out.trans (hb_5.mono HKs2.out.size)
            have HKs3 : Hid (Below w4.heap.size w4 w5) := HKs3.out.trans (hb_5.mono HKs3.out.size)
            have HP := Lib.hid (HP.out.keep hb_5); clear cP; have cP := HP.out.cell
            clear hb_5 hz_5
            have HSs4 := Lib.hid hrs4
            obtain ⟨Bs4, ds4, rfl, _⟩ := hrs4
            have HKs4 : Hid (Below w5.heap.size w5 w5) := Below.refl _ _
            go_wp2_with fail; ((with_reducible refine (specZoneDiff_any B0 Bs0 Bs1 Bs2 Bs3 Bs4 ds0 ds1 ds2 ds3 ds4 xs0 xs1 xs2 xs3 xs4 _ (HSs0.out.below HKs0.out).reads.1 (HSs1.out.below HKs1.out).reads.1 (HSs2.out.below HKs2.out).reads.1 (HSs3.out.below HKs3.out).reads.1 (HSs4.out.below HKs4.out).reads.1 hl0 hl1 hl2 hl3 hl4).mono ?_); rintro e w6 ⟨rfl, hb_6⟩); have hz_6 := hb_6.size; (try simp only [World.size_alloc, World.size_setCell, World.size_drew] at hz_6)
            have HB6 : Hid (Below w.heap.size w w6) := HB5.out.trans (hb_6.mono HB5.out.size)
            have HKs0 : Hid (Below w1.heap.size w1 w6) := HKs0.out.trans (hb_6.mono HKs0.out.size)
            have HKs1 : Hid (Below w2.heap.size w2 w6) := HKs1.out.trans (hb_6.mono HKs1.out.size)
            have HKs2 : Hid (Below w3.heap.size w3 w6) := HKs2.out.trans (hb_6.mono HKs2.out.size)
            have HKs3 : Hid (Below w4.heap.size w4 w6) := HKs3.out.trans (hb_6.mono HKs3.out.size)
            have HKs4 : Hid (Below w5.heap.size w5 w6) := HKs4.out.trans (hb_6.mono HKs4.out.size)
            have HP := Lib.hid (HP.out.keep hb_6); clear cP; have cP := HP.out.cell
            clear hb_6 hz_6
            go_wp2_with fail; ((with_reducible refine (toNet_any B0 A0 c0 xs0 _ ((HR0.out.below HB6.out (Nat.le_refl _)).more HB6.out.size) hl0).mono ?_); rintro e w7 ⟨vx0, rfl, hrx0, hb_7⟩); have hz_7 := hb_7.size; (try simp only [World.size_alloc, World.size_setCell, World.size_drew] at hz_7)
            have HB7 : Hid (Below w.heap.size w w7) := HB6.out.trans (hb_7.mono HB6.out.size)
            have HP := Lib.hid (HP.out.keep hb_7); clear cP; have cP := HP.out.cell
            clear hb_7 hz_7
            have HSx0 := Lib.hid hrx0
            obtain ⟨Bx0, dx0, rfl, _⟩ := hrx0
            have HKx0 : Hid (Below w7.heap.size w7 w7) := Below.refl _ _
            have HB8 : Hid (Below w.heap.size w (w7.alloc (.cells #[.int .i64 B0, .slice Bx0 xs0.length dx0] 30))) := HB7.out.alloc HB7.out.size _
            have HKx0 : Hid (Below w7.heap.size w7 (w7.alloc (.cells #[.int .i64 B0, .slice Bx0 xs0.length dx0] 30))) := HKx0.out.alloc HKx0.out.size _
            have HP := Lib.hid (HP.out.alloc (.cells #[.int .i64 B0, .slice Bx0 xs0.length dx0] 30)); clear cP; have cP := HP.out.cell
            have HX : Hid (Bk (w7.alloc (.cells #[.int .i64 B0, .slice Bx0 xs0.length dx0] 30)) w7.heap.size 30 #[.int .i64 B0, .slice Bx0 xs0.length dx0]) := Bk.new _ _ _
            have cX := HX.out.cell
            go_wp2_with fail; ((with_reducible refine (toBoolS_any A1 c1 xs1 _ ((HR1.out.below HB8.out (Nat.le_refl _)).more HB8.out.size) hl1).mono ?_); rintro e w9 ⟨vx1, rfl, hrx1, hb_8⟩); have hz_8 := hb_8.size; (try simp only [World.size_alloc, World.size_setCell, World.size_drew] at hz_8)
            have HB9 : Hid (Below w.heap.size w w9) := HB8.out.trans (hb_8.mono HB8.out.size)
            have HKx0 : Hid (Below w7.heap.size w7 w9) := HKx0.out.trans (hb_8.mono HKx0.out.size)
            have HP := Lib.hid (HP.out.keep hb_8); clear cP; have cP := HP.out.cell
            have HX := Lib.hid (HX.out.keep hb_8); clear cX; have cX := HX.out.cell
            clear hb_8 hz_8
            have HSx1 := Lib.hid hrx1
            obtain ⟨Bx1, dx1, rfl, _⟩ := hrx1
            have HKx1 : Hid (Below w9.heap.size w9 w9) := Below.refl _ _
            go_wp2_with fail; ((with_reducible refine (toBusS_any A2 c2 xs2 _ ((HR2.out.below HB9.out (Nat.le_refl _)).more HB9.out.size) hl2).mono ?_); rintro e w10 ⟨vx2, rfl, hrx2, hb_9⟩); have hz_9 := hb_9.size; (try simp only [World.size_alloc, World.size_setCell, World.size_drew] at hz_9)
            have HB10 : Hid (Below w.heap.size w w10) := HB9.out.trans (hb_9.mono HB9.out.size)
            have HKx0 : Hid (Below w7.heap.size w7 w10) := HKx0.out.trans (hb_9.mono HKx0.out.size)
            have HKx1 : Hid (Below w9.heap.size w9 w10) := HKx1.out.trans (hb_9.mono HKx1.out.size)
            have HP := Lib.hid (HP.out.keep hb_9); clear cP; have cP := HP.out.cell
            have HX := Lib.hid (HX.out.keep hb_9); clear cX; have cX := HX.out.cell
            clear hb_9 hz_9
            have HSx2 := Lib.hid hrx2
            obtain ⟨Bx2, dx2, rfl, _⟩ := hrx2
            have HKx2 : Hid (Below w10.heap.size w10 w10) := Below.refl _ _
            go_wp2_with fail; ((with_reducible refine (toIntS_any A3 c3 xs3 _ ((HR3.out.below HB10.out (Nat.le_refl _)).more HB10.out.size) hl3).mono ?_); rintro e w11 ⟨vx3, rfl, hrx3, hb_10⟩); have hz_10 := hb_10.size; (try simp only [World.size_alloc, World.size_setCell, World.size_drew] at hz_10)
            have HB11 : Hid (Below w.heap.size w w11) := HB10.out.trans (hb_10.mono HB10.out.size)
            have HKx0 : Hid (Below w7.heap.size w7 w11) := HKx0.out.trans (hb_10.mono HKx0.out.size)
            have HKx1 : Hid (Below w9.heap.size w9 w11) := HKx1.out.trans (hb_10.mono HKx1.out.size)
            have HKx2 : Hid (Below w10.heap.size w10 w11) := HKx2.out.trans (hb_10.mono HKx2.out.size)
            have HP := Lib.hid (HP.out.keep hb_10); clear cP; have cP := HP.out.cell
            have HX := Lib.hid (HX.out.keep hb_10); clear cX; have cX := HX.out.cell
            clear hb_10 hz_10
            have HSx3 := Lib.hid hrx3
            obtain ⟨Bx3, dx3, rfl, _⟩ := hrx3
            have HKx3 : Hid (Below w11.heap.size w11 w11) := Below.refl _ _
            go_wp2_with fail; ((with_reducible refine (toIntS_any A4 c4 xs4 _ ((HR4.out.below HB11.out (Nat.le_refl _)).more HB11.out.size) hl4).mono ?_); rintro e w12 ⟨vx4, rfl, hrx4, hb_11⟩); have hz_11 := hb_11.size; (try simp only [World.size_alloc, World.size_setCell, World.size_drew] at hz_11)
            have HB12 : Hid (Below w.heap.size w w12) := HB11.out.trans (hb_11.mono HB11.out.size)
            have HKx0 : Hid (Below w7.heap.size w7 w12) := HKx0.out.trans (hb_11.mono HKx0.out.size)
            have HKx1 : Hid (Below w9.heap.size w9 w12) := HKx1.out.trans (hb_11.mono HKx1.out.size)
            have HKx2 : Hid (Below w10.heap.size w10 w12) := HKx2.out.trans (hb_11.mono HKx2.out.size)
            have HKx3 : Hid (Below w11.heap.size w11 w12) := HKx3.out.trans (hb_11.mono HKx3.out.size)
            have HP := Lib.hid (HP.out.keep hb_11); clear cP; have cP := HP.out.cell
            have HX := Lib.hid (HX.out.keep hb_11); clear cX; have cX := HX.out.cell
            clear hb_11 hz_11
            have HSx4 := Lib.hid hrx4
            obtain ⟨Bx4, dx4, rfl, _⟩ := hrx4
            have HKx4 : Hid (Below w12.heap.size w12 w12) := Below.refl _ _
            go_wp2_with fail; ((with_reducible refine (implZoneDiff_any B0 Bx0 Bx1 Bx2 Bx3 Bx4 dx0 dx1 dx2 dx3 dx4 xs0 xs1 xs2 xs3 xs4 _ (HSx0.out.below HKx0.out).reads.1 (HSx1.out.below HKx1.out).reads.1 (HSx2.out.below HKx2.out).reads.1 (HSx3.out.below HKx3.out).reads.1 (HSx4.out.below HKx4.out).reads.1 hl0 hl1 hl2 hl3 hl4).mono ?_); rintro e w13 ⟨rfl, hb_12⟩); have hz_12 := hb_12.size; (try simp only [World.size_alloc, World.size_setCell, World.size_drew] at hz_12)
            have HB13 : Hid (Below w.heap.size w w13) := HB12.out.trans (hb_12.mono HB12.out.size)
            have HKx0 : Hid (Below w7.heap.size w7 w13) := HKx0.out.trans (hb_12.mono HKx0.out.size)
            have HKx1 : Hid (Below w9.heap.size w9 w13) := HKx1.out.trans (hb_12.mono HKx1.out.size)
            have HKx2 : Hid (Below w10.heap.size w10 w13) := HKx2.out.trans (hb_12.mono HKx2.out.size)
            have HKx3 : Hid (Below w11.heap.size w11 w13) := HKx3.out.trans (hb_12.mono HKx3.out.size)
            have HKx4 : Hid (Below w12.heap.size w12 w13) := HKx4.out.trans (hb_12.mono HKx4.out.size)
            have HP := Lib.hid (HP.out.keep hb_12); clear cP; have cP := HP.out.cell
            have HX := Lib.hid (HX.out.keep hb_12); clear cX; have cX := HX.out.cell
            clear hb_12 hz_12
            have HZP := Lib.hid HP.out.lt; have zP := HZP.out; have zX := HX.out.lt
            have hrd : Reads 3 r3C w13.drew w13.drew.heap.size A0 xs0 := (HR0.out.below HB13.out (Nat.le_refl _)).more HB13.out.size
            have HRD := Lib.hid hrd; clear hrd
            have hsd := (HSx0.out.below HKx0.out)
            have HSD : Hid (Res 3 r3C 85 w13.drew w6.heap.size (.slice Bx0 xs0.length dx0) xs0) := hsd
            clear hsd
            go_upto_region 23 with fail
            go_region_held3 (fun w' => w'.cell? ⟨w.heap.size, 0, none⟩ = some (.int .i64 B0) ∧ w'.cell? ⟨w.heap.size, 1, none⟩ = some (.slice A0 xs0.length c0) ∧ w'.cell? ⟨w7.heap.size, 0, none⟩ = some (.int .i64 B0) ∧ w'.cell? ⟨w7.heap.size, 1, none⟩ = some (.slice Bx0 xs0.length dx0)) (simp [go_sem, World.cell?_alloc_past, *])
              (first | (go_at_call 10; (with_reducible refine (toNet_any B0 A0 c0 xs0 _ (by exact HRD.out) hl0).mono ?_); rintro e wa ⟨va, rfl, hra, hba⟩; have HRA := Lib.hid hra; have HBA := Lib.hid hba; have HSE := Lib.hid (HSD.out.below hba); have cB0 := keepB hba (g := w.heap.size) zP; have cB1 := keepB hba (g := w7.heap.size) zX; have zA := keepZ hba (g := w.heap.size) zP; have zE := keepZ hba (g := w7.heap.size) zX; obtain ⟨Ba, da, rfl, _⟩ := hra; clear hba) | (go_at_call 13; (with_reducible refine (eqNet_any B0 Bx0 Ba dx0 da xs0 _ (by exact HSE.out.reads.1) (by exact HRA.out.reads.1) hl0).mono ?_); rintro e wb ⟨rfl, hbb⟩; have HBB := Lib.hid hbb; have cD0 := keepB hbb (g := w.heap.size) zA; have cD1 := keepB hbb (g := w7.heap.size) zE; clear hbb))
            have HBD : Hid (Below w13.heap.size w13 wb) := undrew (HBA.out.trans (HBB.out.mono HBA.out.size))
            have HB14 : Hid (Below w.heap.size w wb) := HB13.out.trans (HBD.out.mono HB13.out.size)
            have HKx0 : Hid (Below w7.heap.size w7 wb) := HKx0.out.trans (HBD.out.mono HKx0.out.size)
            have HKx1 : Hid (Below w9.heap.size w9 wb) := HKx1.out.trans (HBD.out.mono HKx1.out.size)
            have HKx2 : Hid (Below w10.heap.size w10 wb) := HKx2.out.trans (HBD.out.mono HKx2.out.size)
            have HKx3 : Hid (Below w11.heap.size w11 wb) := HKx3.out.trans (HBD.out.mono HKx3.out.size)
            have HKx4 : Hid (Below w12.heap.size w12 wb) := HKx4.out.trans (HBD.out.mono HKx4.out.size)
            have HP := Lib.hid (HP.out.keep HBD.out); clear cP; have cP := HP.out.cell
            have HX := Lib.hid (HX.out.keep HBD.out); clear cX; have cX := HX.out.cell
            clear HX cX
            go_wp2_with fail; ((with_reducible refine (toBoolS_any A1 c1 xs1 _ ((HR1.out.below HB14.out (Nat.le_refl _)).more HB14.out.size) hl1).mono ?_); rintro e w15 ⟨vy1, rfl, hry1, hb_13⟩); have hz_13 := hb_13.size; (try simp only [World.size_alloc, World.size_setCell, World.size_drew] at hz_13)
            have HB15 : Hid (Below w.heap.size w w15) := HB14.out.trans (hb_13.mono HB14.out.size)
            have HKx1 : Hid (Below w9.heap.size w9 w15) := HKx1.out.trans (hb_13.mono HKx1.out.size)
            have HKx2 : Hid (Below w10.heap.size w10 w15) := HKx2.out.trans (hb_13.mono HKx2.out.size)
            have HKx3 : Hid (Below w11.heap.size w11 w15) := HKx3.out.trans (hb_13.mono HKx3.out.size)
            have HKx4 : Hid (Below w12.heap.size w12 w15) := HKx4.out.trans (hb_13.mono HKx4.out.size)
            have HP := Lib.hid (HP.out.keep hb_13); clear cP; have cP := HP.out.cell
            clear hb_13 hz_13
            have HSy1 := Lib.hid hry1
            obtain ⟨By1, dy1, rfl, _⟩ := hry1
            have HKy1 : Hid (Below w15.heap.size w15 w15) := Below.refl _ _
            go_wp2_with fail; ((with_reducible refine (eqBoolS_any Bx1 By1 dx1 dy1 xs1 w15 (HSx1.out.below HKx1.out).reads.1 (HSy1.out.below HKy1.out).reads.1 hl1).mono ?_); rintro e w16 ⟨rfl, hb_14⟩); have hz_14 := hb_14.size; (try simp only [World.size_alloc, World.size_setCell, World.size_drew] at hz_14)
            have HB16 : Hid (Below w.heap.size w w16) := HB15.out.trans (hb_14.mono HB15.out.size)
            have HKx1 : Hid (Below w9.heap.size w9 w16) := HKx1.out.trans (hb_14.mono HKx1.out.size)
            have HKx2 : Hid (Below w10.heap.size w10 w16) := HKx2.out.trans (hb_14.mono HKx2.out.size)
            have HKx3 : Hid (Below w11.heap.size w11 w16) := HKx3.out.trans (hb_14.mono HKx3.out.size)
            have HKx4 : Hid (Below w12.heap.size w12 w16) := HKx4.out.trans (hb_14.mono HKx4.out.size)
            have HKy1 : Hid (Below w15.heap.size w15 w16) := HKy1.out.trans (hb_14.mono HKy1.out.size)
            have HP := Lib.hid (HP.out.keep hb_14); clear cP; have cP := HP.out.cell
            clear hb_14 hz_14
            go_wp2_with fail; ((with_reducible refine (toBusS_any A2 c2 xs2 _ ((HR2.out.below HB16.out (Nat.le_refl _)).more HB16.out.size) hl2).mono ?_); rintro e w17 ⟨vy2, rfl, hry2, hb_15⟩); have hz_15 := hb_15.size; (try simp only [World.size_alloc, World.size_setCell, World.size_drew] at hz_15)
            have HB17 : Hid (Below w.heap.size w w17) := HB16.out.trans (hb_15.mono HB16.out.size)
            have HKx2 : Hid (Below w10.heap.size w10 w17) := HKx2.out.trans (hb_15.mono HKx2.out.size)
            have HKx3 : Hid (Below w11.heap.size w11 w17) := HKx3.out.trans (hb_15.mono HKx3.out.size)
            have HKx4 : Hid (Below w12.heap.size w12 w17) := HKx4.out.trans (hb_15.mono HKx4.out.size)
            have HP := Lib.hid (HP.out.keep hb_15); clear cP; have cP := HP.out.cell
            clear hb_15 hz_15
            have HSy2 := Lib.hid hry2
            obtain ⟨By2, dy2, rfl, _⟩ := hry2
            have HKy2 : Hid (Below w17.heap.size w17 w17) := Below.refl _ _
            go_wp2_with fail; ((with_reducible refine (eqBusS_any Bx2 By2 dx2 dy2 xs2 w17 (HSx2.out.below HKx2.out).reads.1 (HSy2.out.below HKy2.out).reads.1 hl2).mono ?_); rintro e w18 ⟨rfl, hb_16⟩); have hz_16 := hb_16.size; (try simp only [World.size_alloc, World.size_setCell, World.size_drew] at hz_16)
            have HB18 : Hid (Below w.heap.size w w18) := HB17.out.trans (hb_16.mono HB17.out.size)
            have HKx2 : Hid (Below w10.heap.size w10 w18) := HKx2.out.trans (hb_16.mono HKx2.out.size)
            have HKx3 : Hid (Below w11.heap.size w11 w18) := HKx3.out.trans (hb_16.mono HKx3.out.size)
            have HKx4 : Hid (Below w12.heap.size w12 w18) := HKx4.out.trans (hb_16.mono HKx4.out.size)
            have HKy2 : Hid (Below w17.heap.size w17 w18) := HKy2.out.trans (hb_16.mono HKy2.out.size)
            have HP := Lib.hid (HP.out.keep hb_16); clear cP; have cP := HP.out.cell
            clear hb_16 hz_16
            go_wp2_with fail; ((with_reducible refine (toIntS_any A3 c3 xs3 _ ((HR3.out.below HB18.out (Nat.le_refl _)).more HB18.out.size) hl3).mono ?_); rintro e w19 ⟨vy3, rfl, hry3, hb_17⟩); have hz_17 := hb_17.size; (try simp only [World.size_alloc, World.size_setCell, World.size_drew] at hz_17)
            have HB19 : Hid (Below w.heap.size w w19) := HB18.out.trans (hb_17.mono HB18.out.size)
            have HKx3 : Hid (Below w11.heap.size w11 w19) := HKx3.out.trans (hb_17.mono HKx3.out.size)
            have HKx4 : Hid (Below w12.heap.size w12 w19) := HKx4.out.trans (hb_17.mono HKx4.out.size)
            have HP := Lib.hid (HP.out.keep hb_17); clear cP; have cP := HP.out.cell
            clear hb_17 hz_17
            have HSy3 := Lib.hid hry3
            obtain ⟨By3, dy3, rfl, _⟩ := hry3
            have HKy3 : Hid (Below w19.heap.size w19 w19) := Below.refl _ _
            go_wp2_with fail; ((with_reducible refine (eqIntS_any Bx3 By3 dx3 dy3 xs3 w19 (HSx3.out.below HKx3.out).reads.1 (HSy3.out.below HKy3.out).reads.1 hl3).mono ?_); rintro e w20 ⟨rfl, hb_18⟩); have hz_18 := hb_18.size; (try simp only [World.size_alloc, World.size_setCell, World.size_drew] at hz_18)
            have HB20 : Hid (Below w.heap.size w w20) := HB19.out.trans (hb_18.mono HB19.out.size)
            have HKx3 : Hid (Below w11.heap.size w11 w20) := HKx3.out.trans (hb_18.mono HKx3.out.size)
            have HKx4 : Hid (Below w12.heap.size w12 w20) := HKx4.out.trans (hb_18.mono HKx4.out.size)
            have HKy3 : Hid (Below w19.heap.size w19 w20) := HKy3.out.trans (hb_18.mono HKy3.out.size)
            have HP := Lib.hid (HP.out.keep hb_18); clear cP; have cP := HP.out.cell
            clear hb_18 hz_18
            go_wp2_with fail; ((with_reducible refine (toIntS_any A4 c4 xs4 _ ((HR4.out.below HB20.out (Nat.le_refl _)).more HB20.out.size) hl4).mono ?_); rintro e w21 ⟨vy4, rfl, hry4, hb_19⟩); have hz_19 := hb_19.size; (try simp only [World.size_alloc, World.size_setCell, World.size_drew] at hz_19)
            have HB21 : Hid (Below w.heap.size w w21) := HB20.out.trans (hb_19.mono HB20.out.size)
            have HKx4 : Hid (Below w12.heap.size w12 w21) := HKx4.out.trans (hb_19.mono HKx4.out.size)
            have HP := Lib.hid (HP.out.keep hb_19); clear cP; have cP := HP.out.cell
            clear hb_19 hz_19
            have HSy4 := Lib.hid hry4
            obtain ⟨By4, dy4, rfl, _⟩ := hry4
            have HKy4 : Hid (Below w21.heap.size w21 w21) := Below.refl _ _
            go_wp2_with fail; ((with_reducible refine (eqIntS_any Bx4 By4 dx4 dy4 xs4 w21 (HSx4.out.below HKx4.out).reads.1 (HSy4.out.below HKy4.out).reads.1 hl4).mono ?_); rintro e w22 ⟨rfl, hb_20⟩); have hz_20 := hb_20.size; (try simp only [World.size_alloc, World.size_setCell, World.size_drew] at hz_20)
            have HB22 : Hid (Below w.heap.size w w22) := HB21.out.trans (hb_20.mono HB21.out.size)
            have HKx4 : Hid (Below w12.heap.size w12 w22) := HKx4.out.trans (hb_20.mono HKx4.out.size)
            have HKy4 : Hid (Below w21.heap.size w21 w22) := HKy4.out.trans (hb_20.mono HKy4.out.size)
            have HP := Lib.hid (HP.out.keep hb_20); clear cP; have cP := HP.out.cell
            clear hb_20 hz_20
            go_wp2
            go_ret
            exact ⟨rfl, HB22.out⟩
          · go_enter Try.func6, Try.ntmps6
            go_wp2_with fail
            refine (szNet_any B0 A0 xs0.length c0 _ _ (by omega) (by omega) (by omega)).mono ?_
            rintro e z0 ⟨rfl, hz0⟩
            have HZ0 := Lib.hid hz0; clear hz0
            have cQ := ((Bk.new w 24 #[.int .i64 B0, .slice A0 xs0.length c0]).keep HZ0.out).cell
            rw [if_pos (by omega)]
            go_wp2_with fail
            refine (szBusS_any A2 xs2.length c2 _ _ (by omega) (by omega) (by omega)).mono ?_
            rintro e w0 ⟨rfl, rfl⟩
            rw [if_neg (by omega)]
            go_wp2_with fail
            go_ret
            refine ⟨rfl, ?_⟩; have hz0 := HZ0.out; (repeat' (first | (with_reducible exact Below.refl _ _) | (with_reducible refine Below.alloc ?_ ?_ _) | (with_reducible refine Below.setCell ?_ ?_ _) | (with_reducible refine Below.drew ?_) | (refine Below.trans ?_ (Below.mono (by with_reducible assumption) ?_)) | go_size))
        · go_enter Try.func6, Try.ntmps6
          go_wp2_with fail
          refine (szNet_any B0 A0 xs0.length c0 _ _ (by omega) (by omega) (by omega)).mono ?_
          rintro e z0 ⟨rfl, hz0⟩
          have HZ0 := Lib.hid hz0; clear hz0
          have cQ := ((Bk.new w 24 #[.int .i64 B0, .slice A0 xs0.length c0]).keep HZ0.out).cell
          rw [if_neg (by omega)]
          go_wp2_with fail
          go_ret
          refine ⟨rfl, ?_⟩; have hz0 := HZ0.out; (repeat' (first | (with_reducible exact Below.refl _ _) | (with_reducible refine Below.alloc ?_ ?_ _) | (with_reducible refine Below.setCell ?_ ?_ _) | (with_reducible refine Below.drew ?_) | (refine Below.trans ?_ (Below.mono (by with_reducible assumption) ?_)) | go_size))
      · have hl4' : (1048576 : Int) < xs4.length := by omega
        go_enter Try.func6, Try.ntmps6
        go_wp2_with fail
        go_ret
        refine ⟨rfl, ?_⟩; (repeat' (first | (with_reducible exact Below.refl _ _) | (with_reducible refine Below.alloc ?_ ?_ _) | (with_reducible refine Below.setCell ?_ ?_ _) | (with_reducible refine Below.drew ?_) | (refine Below.trans ?_ (Below.mono (by with_reducible assumption) ?_)) | go_size))
    · have hl3' : (1048576 : Int) < xs3.length := by omega
      go_enter Try.func6, Try.ntmps6
      go_wp2_with fail
      go_ret
      refine ⟨rfl, ?_⟩; (repeat' (first | (with_reducible exact Below.refl _ _) | (with_reducible refine Below.alloc ?_ ?_ _) | (with_reducible refine Below.setCell ?_ ?_ _) | (with_reducible refine Below.drew ?_) | (refine Below.trans ?_ (Below.mono (by with_reducible assumption) ?_)) | go_size))
  · have hl1' : (1048576 : Int) < xs1.length := by omega
    go_enter Try.func6, Try.ntmps6
    go_wp2_with fail
    go_ret
    refine ⟨rfl, ?_⟩; (repeat' (first | (with_reducible exact Below.refl _ _) | (with_reducible refine Below.alloc ?_ ?_ _) | (with_reducible refine Below.setCell ?_ ?_ _) | (with_reducible refine Below.drew ?_) | (refine Below.trans ?_ (Below.mono (by with_reducible assumption) ?_)) | go_size))
end Go.Proofs.Ytdfgdeccejcpfaa
