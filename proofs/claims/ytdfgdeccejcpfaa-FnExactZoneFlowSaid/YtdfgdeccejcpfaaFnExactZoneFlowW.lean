/- laws.FnExactZoneFlow: its walk: every call returns true, whatever the input. -/
import Derived.Test.YtdfgdeccejcpfaaSpL
import Derived.Test.YtdfgdeccejcpfaaZf
import Derived.Test.YtdfgdeccejcpfaaSlNet
namespace Go.Proofs.Ytdfgdeccejcpfaa
open Go.RowKit
set_option linter.unusedSimpArgs false
set_option linter.unusedVariables false

set_option maxHeartbeats 4000000 in
theorem fnExactZoneFlow_any (B0 : Int) (A0 : Option Addr) (n0 c0 : Nat) (xs0 : List R3) (A1 : Option Addr) (n1 c1 : Nat) (xs1 : List Bool) (A2 : Option Addr) (n2 c2 : Nat) (xs2 : List R2) (A3 : Option Addr) (n3 c3 : Nat) (xs3 : List Int) (w : World) (hB0 : I64 B0) (hn0 : xs0.length = n0) (hg0 : ∀ x ∈ xs0, G3 x) (hnc0 : n0 ≤ c0) (hcm0 : c0 ≤ maxLen) (hR0 : Reads 3 r3C w w.heap.size A0 xs0) (hn1 : xs1.length = n1) (hg1 : ∀ x ∈ xs1, True) (hnc1 : n1 ≤ c1) (hcm1 : c1 ≤ maxLen) (hR1 : Reads 1 boolC w w.heap.size A1 xs1) (hn2 : xs2.length = n2) (hg2 : ∀ x ∈ xs2, G2 x) (hnc2 : n2 ≤ c2) (hcm2 : c2 ≤ maxLen) (hR2 : Reads 2 r2C w w.heap.size A2 xs2) (hn3 : xs3.length = n3) (hg3 : ∀ x ∈ xs3, I64 x) (hnc3 : n3 ≤ c3) (hcm3 : c3 ≤ maxLen) (hR3 : Reads 1 intC w w.heap.size A3 xs3) :
    Calls Try.prog 5 #[.agg #[.int .i64 B0, .slice A0 n0 c0], .slice A1 n1 c1, .slice A2 n2 c2, .slice A3 n3 c3] w fun e w' => e = .returned (.bool true) ∧ Below w.heap.size w w' := by
  unfold maxLen at hcm0 hcm1 hcm2 hcm3
  subst hn0 hn1 hn2 hn3
  have HR0 := Lib.hid hR0; clear hR0
  have HG0 := Lib.hid hg0; clear hg0
  have HR1 := Lib.hid hR1; clear hR1
  have HG1 := Lib.hid hg1; clear hg1
  have HR2 := Lib.hid hR2; clear hR2
  have HG2 := Lib.hid hg2; clear hg2
  have HR3 := Lib.hid hR3; clear hR3
  have HG3 := Lib.hid hg3; clear hg3
  have hnn : ∀ x : Int, (x != x) = false := fun x => by simp
  have hbb : ∀ x : Bool, (x != x) = false := fun x => by simp
  by_cases hl1 : xs1.length ≤ 1048576
  · have hl1' : ¬ (1048576 : Int) < xs1.length := by omega
    by_cases hl3 : xs3.length ≤ 1048576
    · have hl3' : ¬ (1048576 : Int) < xs3.length := by omega
      by_cases hs0 : (xs0.length : Int) ≤ 1048576
      · have hl0 : xs0.length ≤ 1048576 := by omega
        have hd0 : (0 : Int) ≤ 1048576 - xs0.length := by omega
        by_cases hs2 : (xs2.length : Int) ≤ 1048576 - (xs0.length : Int)
        · have hl2 : xs2.length ≤ 1048576 := by omega
          have hd2 : (0 : Int) ≤ 1048576 - (xs0.length : Int) - xs2.length := by omega
          go_enter Try.func5, Try.ntmps5
          go_wp2_with fail
          refine (szNet_any B0 A0 xs0.length c0 _ _ (by omega) (by omega) (by omega)).mono ?_
          rintro e z0 ⟨rfl, hz0⟩
          have HZ0 := Lib.hid hz0; clear hz0
          have cQ := ((Bk.new w 24 #[.int .i64 B0, .slice A0 xs0.length c0]).keep HZ0.out).cell
          rw [if_pos (by omega)]
          go_wp2_with fail
          refine (szBusS_any A2 xs2.length c2 _ _ (by omega) (by omega) (by omega)).mono ?_
          rintro e w0 ⟨rfl, rfl⟩
          rw [if_pos (by omega)]
          have HB0 : Hid (Below w.heap.size w z0) := by unfold Hid; have hz0 := HZ0.out; (repeat' (first | (with_reducible exact Below.refl _ _) | (with_reducible refine Below.alloc ?_ ?_ _) | (with_reducible refine Below.setCell ?_ ?_ _) | (with_reducible refine Below.drew ?_) | (refine Below.trans ?_ (Below.mono (by with_reducible assumption) ?_)) | go_size))
          have HP : Hid (Bk z0 w.heap.size 24 #[.int .i64 B0, .slice A0 xs0.length c0]) := (Bk.new _ _ _).keep HZ0.out
          have cP := HP.out.cell
          go_wp2_with fail; ((with_reducible refine (toNet_any B0 A0 c0 xs0 _ ((HR0.out.below HB0.out (Nat.le_refl _)).more HB0.out.size) hl0).mono ?_); rintro e w1 ⟨vs0, rfl, hrs0, hb_1⟩); have hz_1 := hb_1.size; (try simp only [World.size_alloc, World.size_setCell, World.size_drew] at hz_1)
          have HB1 : Hid (Below w.heap.size w w1) := HB0.out.trans (hb_1.mono HB0.out.size)
          have HP := Lib.hid (HP.out.keep hb_1); clear cP; have cP := HP.out.cell
          clear hb_1 hz_1
          have HSs0 := Lib.hid hrs0
          obtain ⟨Bs0, ds0, rfl, _⟩ := hrs0
          have HKs0 : Hid (Below w1.heap.size w1 w1) := Below.refl _ _
          go_wp2_with fail; ((with_reducible refine (toBoolS_any A1 c1 xs1 _ ((HR1.out.below HB1.out (Nat.le_refl _)).more HB1.out.size) hl1).mono ?_); rintro e w2 ⟨vs1, rfl, hrs1, hb_2⟩); have hz_2 := hb_2.size; (try simp only [World.size_alloc, World.size_setCell, World.size_drew] at hz_2)
          have HB2 : Hid (Below w.heap.size w w2) := HB1.out.trans (hb_2.mono HB1.out.size)
          have HKs0 : Hid (Below w1.heap.size w1 w2) := HKs0.out.trans (hb_2.mono HKs0.out.size)
          have HP := Lib.hid (HP.out.keep hb_2); clear cP; have cP := HP.out.cell
          clear hb_2 hz_2
          have HSs1 := Lib.hid hrs1
          obtain ⟨Bs1, ds1, rfl, _⟩ := hrs1
          have HKs1 : Hid (Below w2.heap.size w2 w2) := Below.refl _ _
          go_wp2_with fail; ((with_reducible refine (toBusS_any A2 c2 xs2 _ ((HR2.out.below HB2.out (Nat.le_refl _)).more HB2.out.size) hl2).mono ?_); rintro e w3 ⟨vs2, rfl, hrs2, hb_3⟩); have hz_3 := hb_3.size; (try simp only [World.size_alloc, World.size_setCell, World.size_drew] at hz_3)
          have HB3 : Hid (Below w.heap.size w w3) := HB2.out.trans (hb_3.mono HB2.out.size)
          have HKs0 : Hid (Below w1.heap.size w1 w3) := HKs0.out.trans (hb_3.mono HKs0.out.size)
          have HKs1 : Hid (Below w2.heap.size w2 w3) := HKs1.out.trans (hb_3.mono HKs1.out.size)
          have HP := Lib.hid (HP.out.keep hb_3); clear cP; have cP := HP.out.cell
          clear hb_3 hz_3
          have HSs2 := Lib.hid hrs2
          obtain ⟨Bs2, ds2, rfl, _⟩ := hrs2
          have HKs2 : Hid (Below w3.heap.size w3 w3) := Below.refl _ _
          go_wp2_with fail; ((with_reducible refine (toIntS_any A3 c3 xs3 _ ((HR3.out.below HB3.out (Nat.le_refl _)).more HB3.out.size) hl3).mono ?_); rintro e w4 ⟨vs3, rfl, hrs3, hb_4⟩); have hz_4 := hb_4.size; (try simp only [World.size_alloc, World.size_setCell, World.size_drew] at hz_4)
          have HB4 : Hid (Below w.heap.size w w4) := HB3.out.trans (hb_4.mono HB3.out.size)
          have HKs0 : Hid (Below w1.heap.size w1 w4) := HKs0.out.trans (hb_4.mono HKs0.out.size)
          have HKs1 : Hid (Below w2.heap.size w2 w4) := HKs1.out.trans (hb_4.mono HKs1.out.size)
          have HKs2 : Hid (Below w3.heap.size w3 w4) := HKs2.out.trans (hb_4.mono HKs2.out.size)
          have HP := Lib.hid (HP.out.keep hb_4); clear cP; have cP := HP.out.cell
          clear hb_4 hz_4
          have HSs3 := Lib.hid hrs3
          obtain ⟨Bs3, ds3, rfl, _⟩ := hrs3
          have HKs3 : Hid (Below w4.heap.size w4 w4) := Below.refl _ _
          go_wp2_with fail; ((with_reducible refine (specZoneFlow_any B0 Bs0 Bs1 Bs2 Bs3 ds0 ds1 ds2 ds3 xs0 xs1 xs2 xs3 _ (HSs0.out.below HKs0.out).reads.1 (HSs1.out.below HKs1.out).reads.1 (HSs2.out.below HKs2.out).reads.1 (HSs3.out.below HKs3.out).reads.1 hl0 hl1 hl2 hl3).mono ?_); rintro e w5 ⟨rfl, hb_5⟩); have hz_5 := hb_5.size; (try simp only [World.size_alloc, World.size_setCell, World.size_drew] at hz_5)
          have HB5 : Hid (Below w.heap.size w w5) := HB4.out.trans (hb_5.mono HB4.out.size)
          have HKs0 : Hid (Below w1.heap.size w1 w5) := HKs0.out.trans (hb_5.mono HKs0.out.size)
          have HKs1 : Hid (Below w2.heap.size w2 w5) := HKs1.out.trans (hb_5.mono HKs1.out.size)
          have HKs2 : Hid (Below w3.heap.size w3 w5) := HKs2.out.trans (hb_5.mono HKs2.out.size)
          have HKs3 : Hid (Below w4.heap.size w4 w5) := HKs3.out.trans (hb_5.mono HKs3.out.size)
          have HP := Lib.hid (HP.out.keep hb_5); clear cP; have cP := HP.out.cell
          clear hb_5 hz_5
          go_wp2_with fail; ((with_reducible refine (toNet_any B0 A0 c0 xs0 _ ((HR0.out.below HB5.out (Nat.le_refl _)).more HB5.out.size) hl0).mono ?_); rintro e w6 ⟨vx0, rfl, hrx0, hb_6⟩); have hz_6 := hb_6.size; (try simp only [World.size_alloc, World.size_setCell, World.size_drew] at hz_6)
          have HB6 : Hid (Below w.heap.size w w6) := HB5.out.trans (hb_6.mono HB5.out.size)
          have HP := Lib.hid (HP.out.keep hb_6); clear cP; have cP := HP.out.cell
          clear hb_6 hz_6
          have HSx0 := Lib.hid hrx0
          obtain ⟨Bx0, dx0, rfl, _⟩ := hrx0
          have HKx0 : Hid (Below w6.heap.size w6 w6) := Below.refl _ _
          have HB7 : Hid (Below w.heap.size w (w6.alloc (.cells #[.int .i64 B0, .slice Bx0 xs0.length dx0] 30))) := HB6.out.alloc HB6.out.size _
          have HKx0 : Hid (Below w6.heap.size w6 (w6.alloc (.cells #[.int .i64 B0, .slice Bx0 xs0.length dx0] 30))) := HKx0.out.alloc HKx0.out.size _
          have HP := Lib.hid (HP.out.alloc (.cells #[.int .i64 B0, .slice Bx0 xs0.length dx0] 30)); clear cP; have cP := HP.out.cell
          have HX : Hid (Bk (w6.alloc (.cells #[.int .i64 B0, .slice Bx0 xs0.length dx0] 30)) w6.heap.size 30 #[.int .i64 B0, .slice Bx0 xs0.length dx0]) := Bk.new _ _ _
          have cX := HX.out.cell
          go_wp2_with fail; ((with_reducible refine (toBoolS_any A1 c1 xs1 _ ((HR1.out.below HB7.out (Nat.le_refl _)).more HB7.out.size) hl1).mono ?_); rintro e w8 ⟨vx1, rfl, hrx1, hb_7⟩); have hz_7 := hb_7.size; (try simp only [World.size_alloc, World.size_setCell, World.size_drew] at hz_7)
          have HB8 : Hid (Below w.heap.size w w8) := HB7.out.trans (hb_7.mono HB7.out.size)
          have HKx0 : Hid (Below w6.heap.size w6 w8) := HKx0.out.trans (hb_7.mono HKx0.out.size)
          have HP := Lib.hid (HP.out.keep hb_7); clear cP; have cP := HP.out.cell
          have HX := Lib.hid (HX.out.keep hb_7); clear cX; have cX := HX.out.cell
          clear hb_7 hz_7
          have HSx1 := Lib.hid hrx1
          obtain ⟨Bx1, dx1, rfl, _⟩ := hrx1
          have HKx1 : Hid (Below w8.heap.size w8 w8) := Below.refl _ _
          go_wp2_with fail; ((with_reducible refine (toBusS_any A2 c2 xs2 _ ((HR2.out.below HB8.out (Nat.le_refl _)).more HB8.out.size) hl2).mono ?_); rintro e w9 ⟨vx2, rfl, hrx2, hb_8⟩); have hz_8 := hb_8.size; (try simp only [World.size_alloc, World.size_setCell, World.size_drew] at hz_8)
          have HB9 : Hid (Below w.heap.size w w9) := HB8.out.trans (hb_8.mono HB8.out.size)
          have HKx0 : Hid (Below w6.heap.size w6 w9) := HKx0.out.trans (hb_8.mono HKx0.out.size)
          have HKx1 : Hid (Below w8.heap.size w8 w9) := HKx1.out.trans (hb_8.mono HKx1.out.size)
          have HP := Lib.hid (HP.out.keep hb_8); clear cP; have cP := HP.out.cell
          have HX := Lib.hid (HX.out.keep hb_8); clear cX; have cX := HX.out.cell
          clear hb_8 hz_8
          have HSx2 := Lib.hid hrx2
          obtain ⟨Bx2, dx2, rfl, _⟩ := hrx2
          have HKx2 : Hid (Below w9.heap.size w9 w9) := Below.refl _ _
          go_wp2_with fail; ((with_reducible refine (toIntS_any A3 c3 xs3 _ ((HR3.out.below HB9.out (Nat.le_refl _)).more HB9.out.size) hl3).mono ?_); rintro e w10 ⟨vx3, rfl, hrx3, hb_9⟩); have hz_9 := hb_9.size; (try simp only [World.size_alloc, World.size_setCell, World.size_drew] at hz_9)
          have HB10 : Hid (Below w.heap.size w w10) := HB9.out.trans (hb_9.mono HB9.out.size)
          have HKx0 : Hid (Below w6.heap.size w6 w10) := HKx0.out.trans (hb_9.mono HKx0.out.size)
          have HKx1 : Hid (Below w8.heap.size w8 w10) := HKx1.out.trans (hb_9.mono HKx1.out.size)
          have HKx2 : Hid (Below w9.heap.size w9 w10) := HKx2.out.trans (hb_9.mono HKx2.out.size)
          have HP := Lib.hid (HP.out.keep hb_9); clear cP; have cP := HP.out.cell
          have HX := Lib.hid (HX.out.keep hb_9); clear cX; have cX := HX.out.cell
          clear hb_9 hz_9
          have HSx3 := Lib.hid hrx3
          obtain ⟨Bx3, dx3, rfl, _⟩ := hrx3
          have HKx3 : Hid (Below w10.heap.size w10 w10) := Below.refl _ _
          go_wp2_with fail; ((with_reducible refine (implZoneFlow_any B0 Bx0 Bx1 Bx2 Bx3 dx0 dx1 dx2 dx3 xs0 xs1 xs2 xs3 _ (HSx0.out.below HKx0.out).reads.1 (HSx1.out.below HKx1.out).reads.1 (HSx2.out.below HKx2.out).reads.1 (HSx3.out.below HKx3.out).reads.1 hl0 hl1 hl2 hl3).mono ?_); rintro e w11 ⟨rfl, hb_10⟩); have hz_10 := hb_10.size; (try simp only [World.size_alloc, World.size_setCell, World.size_drew] at hz_10)
          have HB11 : Hid (Below w.heap.size w w11) := HB10.out.trans (hb_10.mono HB10.out.size)
          have HKx0 : Hid (Below w6.heap.size w6 w11) := HKx0.out.trans (hb_10.mono HKx0.out.size)
          have HKx1 : Hid (Below w8.heap.size w8 w11) := HKx1.out.trans (hb_10.mono HKx1.out.size)
          have HKx2 : Hid (Below w9.heap.size w9 w11) := HKx2.out.trans (hb_10.mono HKx2.out.size)
          have HKx3 : Hid (Below w10.heap.size w10 w11) := HKx3.out.trans (hb_10.mono HKx3.out.size)
          have HP := Lib.hid (HP.out.keep hb_10); clear cP; have cP := HP.out.cell
          have HX := Lib.hid (HX.out.keep hb_10); clear cX; have cX := HX.out.cell
          clear hb_10 hz_10
          have HZP := Lib.hid HP.out.lt; have zP := HZP.out; have zX := HX.out.lt
          have hrd : Reads 3 r3C w11.drew w11.drew.heap.size A0 xs0 := (HR0.out.below HB11.out (Nat.le_refl _)).more HB11.out.size
          have HRD := Lib.hid hrd; clear hrd
          have hsd := (HSx0.out.below HKx0.out)
          have HSD : Hid (Res 3 r3C 85 w11.drew w5.heap.size (.slice Bx0 xs0.length dx0) xs0) := hsd
          clear hsd
          go_upto_region 20 with fail
          go_region_held3 (fun w' => w'.cell? ⟨w.heap.size, 0, none⟩ = some (.int .i64 B0) ∧ w'.cell? ⟨w.heap.size, 1, none⟩ = some (.slice A0 xs0.length c0) ∧ w'.cell? ⟨w6.heap.size, 0, none⟩ = some (.int .i64 B0) ∧ w'.cell? ⟨w6.heap.size, 1, none⟩ = some (.slice Bx0 xs0.length dx0)) (simp [go_sem, World.cell?_alloc_past, *])
            (first | (go_at_call 10; (with_reducible refine (toNet_any B0 A0 c0 xs0 _ (by exact HRD.out) hl0).mono ?_); rintro e wa ⟨va, rfl, hra, hba⟩; have HRA := Lib.hid hra; have HBA := Lib.hid hba; have HSE := Lib.hid (HSD.out.below hba); have cB0 := keepB hba (g := w.heap.size) zP; have cB1 := keepB hba (g := w6.heap.size) zX; have zA := keepZ hba (g := w.heap.size) zP; have zE := keepZ hba (g := w6.heap.size) zX; obtain ⟨Ba, da, rfl, _⟩ := hra; clear hba) | (go_at_call 13; (with_reducible refine (eqNet_any B0 Bx0 Ba dx0 da xs0 _ (by exact HSE.out.reads.1) (by exact HRA.out.reads.1) hl0).mono ?_); rintro e wb ⟨rfl, hbb⟩; have HBB := Lib.hid hbb; have cD0 := keepB hbb (g := w.heap.size) zA; have cD1 := keepB hbb (g := w6.heap.size) zE; clear hbb))
          have HBD : Hid (Below w11.heap.size w11 wb) := undrew (HBA.out.trans (HBB.out.mono HBA.out.size))
          have HB12 : Hid (Below w.heap.size w wb) := HB11.out.trans (HBD.out.mono HB11.out.size)
          have HKx0 : Hid (Below w6.heap.size w6 wb) := HKx0.out.trans (HBD.out.mono HKx0.out.size)
          have HKx1 : Hid (Below w8.heap.size w8 wb) := HKx1.out.trans (HBD.out.mono HKx1.out.size)
          have HKx2 : Hid (Below w9.heap.size w9 wb) := HKx2.out.trans (HBD.out.mono HKx2.out.size)
          have HKx3 : Hid (Below w10.heap.size w10 wb) := HKx3.out.trans (HBD.out.mono HKx3.out.size)
          have HP := Lib.hid (HP.out.keep HBD.out); clear cP; have cP := HP.out.cell
          have HX := Lib.hid (HX.out.keep HBD.out); clear cX; have cX := HX.out.cell
          clear HX cX
          go_wp2_with fail; ((with_reducible refine (toBoolS_any A1 c1 xs1 _ ((HR1.out.below HB12.out (Nat.le_refl _)).more HB12.out.size) hl1).mono ?_); rintro e w13 ⟨vy1, rfl, hry1, hb_11⟩); have hz_11 := hb_11.size; (try simp only [World.size_alloc, World.size_setCell, World.size_drew] at hz_11)
          have HB13 : Hid (Below w.heap.size w w13) := HB12.out.trans (hb_11.mono HB12.out.size)
          have HKx1 : Hid (Below w8.heap.size w8 w13) := HKx1.out.trans (hb_11.mono HKx1.out.size)
          have HKx2 : Hid (Below w9.heap.size w9 w13) := HKx2.out.trans (hb_11.mono HKx2.out.size)
          have HKx3 : Hid (Below w10.heap.size w10 w13) := HKx3.out.trans (hb_11.mono HKx3.out.size)
          have HP := Lib.hid (HP.out.keep hb_11); clear cP; have cP := HP.out.cell
          clear hb_11 hz_11
          have HSy1 := Lib.hid hry1
          obtain ⟨By1, dy1, rfl, _⟩ := hry1
          have HKy1 : Hid (Below w13.heap.size w13 w13) := Below.refl _ _
          go_wp2_with fail; ((with_reducible refine (eqBoolS_any Bx1 By1 dx1 dy1 xs1 w13 (HSx1.out.below HKx1.out).reads.1 (HSy1.out.below HKy1.out).reads.1 hl1).mono ?_); rintro e w14 ⟨rfl, hb_12⟩); have hz_12 := hb_12.size; (try simp only [World.size_alloc, World.size_setCell, World.size_drew] at hz_12)
          have HB14 : Hid (Below w.heap.size w w14) := HB13.out.trans (hb_12.mono HB13.out.size)
          have HKx1 : Hid (Below w8.heap.size w8 w14) := HKx1.out.trans (hb_12.mono HKx1.out.size)
          have HKx2 : Hid (Below w9.heap.size w9 w14) := HKx2.out.trans (hb_12.mono HKx2.out.size)
          have HKx3 : Hid (Below w10.heap.size w10 w14) := HKx3.out.trans (hb_12.mono HKx3.out.size)
          have HKy1 : Hid (Below w13.heap.size w13 w14) := HKy1.out.trans (hb_12.mono HKy1.out.size)
          have HP := Lib.hid (HP.out.keep hb_12); clear cP; have cP := HP.out.cell
          clear hb_12 hz_12
          go_wp2_with fail; ((with_reducible refine (toBusS_any A2 c2 xs2 _ ((HR2.out.below HB14.out (Nat.le_refl _)).more HB14.out.size) hl2).mono ?_); rintro e w15 ⟨vy2, rfl, hry2, hb_13⟩); have hz_13 := hb_13.size; (try simp only [World.size_alloc, World.size_setCell, World.size_drew] at hz_13)
          have HB15 : Hid (Below w.heap.size w w15) := HB14.out.trans (hb_13.mono HB14.out.size)
          have HKx2 : Hid (Below w9.heap.size w9 w15) := HKx2.out.trans (hb_13.mono HKx2.out.size)
          have HKx3 : Hid (Below w10.heap.size w10 w15) := HKx3.out.trans (hb_13.mono HKx3.out.size)
          have HP := Lib.hid (HP.out.keep hb_13); clear cP; have cP := HP.out.cell
          clear hb_13 hz_13
          have HSy2 := Lib.hid hry2
          obtain ⟨By2, dy2, rfl, _⟩ := hry2
          have HKy2 : Hid (Below w15.heap.size w15 w15) := Below.refl _ _
          go_wp2_with fail; ((with_reducible refine (eqBusS_any Bx2 By2 dx2 dy2 xs2 w15 (HSx2.out.below HKx2.out).reads.1 (HSy2.out.below HKy2.out).reads.1 hl2).mono ?_); rintro e w16 ⟨rfl, hb_14⟩); have hz_14 := hb_14.size; (try simp only [World.size_alloc, World.size_setCell, World.size_drew] at hz_14)
          have HB16 : Hid (Below w.heap.size w w16) := HB15.out.trans (hb_14.mono HB15.out.size)
          have HKx2 : Hid (Below w9.heap.size w9 w16) := HKx2.out.trans (hb_14.mono HKx2.out.size)
          have HKx3 : Hid (Below w10.heap.size w10 w16) := HKx3.out.trans (hb_14.mono HKx3.out.size)
          have HKy2 : Hid (Below w15.heap.size w15 w16) := HKy2.out.trans (hb_14.mono HKy2.out.size)
          have HP := Lib.hid (HP.out.keep hb_14); clear cP; have cP := HP.out.cell
          clear hb_14 hz_14
          go_wp2_with fail; ((with_reducible refine (toIntS_any A3 c3 xs3 _ ((HR3.out.below HB16.out (Nat.le_refl _)).more HB16.out.size) hl3).mono ?_); rintro e w17 ⟨vy3, rfl, hry3, hb_15⟩); have hz_15 := hb_15.size; (try simp only [World.size_alloc, World.size_setCell, World.size_drew] at hz_15)
          have HB17 : Hid (Below w.heap.size w w17) := HB16.out.trans (hb_15.mono HB16.out.size)
          have HKx3 : Hid (Below w10.heap.size w10 w17) := HKx3.out.trans (hb_15.mono HKx3.out.size)
          have HP := Lib.hid (HP.out.keep hb_15); clear cP; have cP := HP.out.cell
          clear hb_15 hz_15
          have HSy3 := Lib.hid hry3
          obtain ⟨By3, dy3, rfl, _⟩ := hry3
          have HKy3 : Hid (Below w17.heap.size w17 w17) := Below.refl _ _
          go_wp2_with fail; ((with_reducible refine (eqIntS_any Bx3 By3 dx3 dy3 xs3 w17 (HSx3.out.below HKx3.out).reads.1 (HSy3.out.below HKy3.out).reads.1 hl3).mono ?_); rintro e w18 ⟨rfl, hb_16⟩); have hz_16 := hb_16.size; (try simp only [World.size_alloc, World.size_setCell, World.size_drew] at hz_16)
          have HB18 : Hid (Below w.heap.size w w18) := HB17.out.trans (hb_16.mono HB17.out.size)
          have HKx3 : Hid (Below w10.heap.size w10 w18) := HKx3.out.trans (hb_16.mono HKx3.out.size)
          have HKy3 : Hid (Below w17.heap.size w17 w18) := HKy3.out.trans (hb_16.mono HKy3.out.size)
          have HP := Lib.hid (HP.out.keep hb_16); clear cP; have cP := HP.out.cell
          clear hb_16 hz_16
          go_wp2
          go_ret
          exact ⟨rfl, HB18.out⟩
        · go_enter Try.func5, Try.ntmps5
          go_wp2_with fail
          refine (szNet_any B0 A0 xs0.length c0 _ _ (by omega) (by omega) (by omega)).mono ?_
          rintro e z0 ⟨rfl, hz0⟩
          have HZ0 := Lib.hid hz0; clear hz0
          have cQ := ((Bk.new w 24 #[.int .i64 B0, .slice A0 xs0.length c0]).keep HZ0.out).cell
          rw [if_pos (by omega)]
          go_wp2_with fail
          refine (szBusS_any A2 xs2.length c2 _ _ (by omega) (by omega) (by omega)).mono ?_
          rintro e w0 ⟨rfl, rfl⟩
          rw [if_neg (by omega)]
          go_wp2_with fail
          go_ret
          refine ⟨rfl, ?_⟩; have hz0 := HZ0.out; (repeat' (first | (with_reducible exact Below.refl _ _) | (with_reducible refine Below.alloc ?_ ?_ _) | (with_reducible refine Below.setCell ?_ ?_ _) | (with_reducible refine Below.drew ?_) | (refine Below.trans ?_ (Below.mono (by with_reducible assumption) ?_)) | go_size))
      · go_enter Try.func5, Try.ntmps5
        go_wp2_with fail
        refine (szNet_any B0 A0 xs0.length c0 _ _ (by omega) (by omega) (by omega)).mono ?_
        rintro e z0 ⟨rfl, hz0⟩
        have HZ0 := Lib.hid hz0; clear hz0
        have cQ := ((Bk.new w 24 #[.int .i64 B0, .slice A0 xs0.length c0]).keep HZ0.out).cell
        rw [if_neg (by omega)]
        go_wp2_with fail
        go_ret
        refine ⟨rfl, ?_⟩; have hz0 := HZ0.out; (repeat' (first | (with_reducible exact Below.refl _ _) | (with_reducible refine Below.alloc ?_ ?_ _) | (with_reducible refine Below.setCell ?_ ?_ _) | (with_reducible refine Below.drew ?_) | (refine Below.trans ?_ (Below.mono (by with_reducible assumption) ?_)) | go_size))
    · have hl3' : (1048576 : Int) < xs3.length := by omega
      go_enter Try.func5, Try.ntmps5
      go_wp2_with fail
      go_ret
      refine ⟨rfl, ?_⟩; (repeat' (first | (with_reducible exact Below.refl _ _) | (with_reducible refine Below.alloc ?_ ?_ _) | (with_reducible refine Below.setCell ?_ ?_ _) | (with_reducible refine Below.drew ?_) | (refine Below.trans ?_ (Below.mono (by with_reducible assumption) ?_)) | go_size))
  · have hl1' : (1048576 : Int) < xs1.length := by omega
    go_enter Try.func5, Try.ntmps5
    go_wp2_with fail
    go_ret
    refine ⟨rfl, ?_⟩; (repeat' (first | (with_reducible exact Below.refl _ _) | (with_reducible refine Below.alloc ?_ ?_ _) | (with_reducible refine Below.setCell ?_ ?_ _) | (with_reducible refine Below.drew ?_) | (refine Below.trans ?_ (Below.mono (by with_reducible assumption) ?_)) | go_size))
end Go.Proofs.Ytdfgdeccejcpfaa
