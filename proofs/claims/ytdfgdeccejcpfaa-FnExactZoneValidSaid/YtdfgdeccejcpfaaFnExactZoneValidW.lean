/- laws.FnExactZoneValid: its walk: every call returns true, whatever the input. -/
import Derived.Test.YtdfgdeccejcpfaaZoD
import Derived.Test.YtdfgdeccejcpfaaSlNet
namespace Go.Proofs.Ytdfgdeccejcpfaa
open Go.RowKit
set_option linter.unusedSimpArgs false
set_option linter.unusedVariables false

set_option maxHeartbeats 4000000 in
theorem fnExactZoneValid_any (B0 : Int) (A0 : Option Addr) (n0 c0 : Nat) (xs0 : List R3) (A1 : Option Addr) (n1 c1 : Nat) (xs1 : List Int) (w : World) (hB0 : I64 B0) (hn0 : xs0.length = n0) (hg0 : ∀ x ∈ xs0, G3 x) (hnc0 : n0 ≤ c0) (hcm0 : c0 ≤ maxLen) (hR0 : Reads 3 r3C w w.heap.size A0 xs0) (hn1 : xs1.length = n1) (hg1 : ∀ x ∈ xs1, I64 x) (hnc1 : n1 ≤ c1) (hcm1 : c1 ≤ maxLen) (hR1 : Reads 1 intC w w.heap.size A1 xs1) :
    Calls Try.prog 3 #[.agg #[.int .i64 B0, .slice A0 n0 c0], .slice A1 n1 c1] w fun e w' => e = .returned (.bool true) ∧ Below w.heap.size w w' := by
  unfold maxLen at hcm0 hcm1
  subst hn0 hn1
  have HR0 := Lib.hid hR0; clear hR0
  have HG0 := Lib.hid hg0; clear hg0
  have HR1 := Lib.hid hR1; clear hR1
  have HG1 := Lib.hid hg1; clear hg1
  have hnn : ∀ x : Int, (x != x) = false := fun x => by simp
  have hbb : ∀ x : Bool, (x != x) = false := fun x => by simp
  by_cases hl1 : xs1.length ≤ 1048576
  · have hl1' : ¬ (1048576 : Int) < xs1.length := by omega
    by_cases hs0 : (xs0.length : Int) ≤ 1048576
    · have hl0 : xs0.length ≤ 1048576 := by omega
      have hd0 : (0 : Int) ≤ 1048576 - xs0.length := by omega
      go_enter Try.func3, Try.ntmps3
      go_wp2_with fail
      refine (szNet_any B0 A0 xs0.length c0 _ _ (by omega) (by omega) (by omega)).mono ?_
      rintro e z0 ⟨rfl, hz0⟩
      have HZ0 := Lib.hid hz0; clear hz0
      have cQ := ((Bk.new w 24 #[.int .i64 B0, .slice A0 xs0.length c0]).keep HZ0.out).cell
      rw [if_pos (by omega)]
      have HB0 : Hid (Below w.heap.size w z0) := by unfold Hid; have hz0 := HZ0.out; (repeat' (first | (with_reducible exact Below.refl _ _) | (with_reducible refine Below.alloc ?_ ?_ _) | (with_reducible refine Below.setCell ?_ ?_ _) | (with_reducible refine Below.drew ?_) | (refine Below.trans ?_ (Below.mono (by with_reducible assumption) ?_)) | go_size))
      have HP : Hid (Bk z0 w.heap.size 24 #[.int .i64 B0, .slice A0 xs0.length c0]) := (Bk.new _ _ _).keep HZ0.out
      have cP := HP.out.cell
      go_wp2_with fail; ((with_reducible refine (toNet_any B0 A0 c0 xs0 _ ((HR0.out.below HB0.out (Nat.le_refl _)).more HB0.out.size) hl0).mono ?_); rintro e w1 ⟨vs0, rfl, hrs0, hb_1⟩); have hz_1 := hb_1.size; (try simp only [World.size_alloc, World.size_setCell, World.size_drew] at hz_1)
      have HB1 : Hid (Below w.heap.size w w1) := HB0.out.trans (hb_1.mono HB0.out.size)
      have HP := Lib.hid (HP.out.keep hb_1); clear cP; have cP := HP.out.cell
      clear hb_1 hz_1
      have HSs0 := Lib.hid hrs0
      obtain ⟨Bs0, ds0, rfl, _⟩ := hrs0
      have HKs0 : Hid (Below w1.heap.size w1 w1) := Below.refl _ _
      go_wp2_with fail; ((with_reducible refine (toIntS_any A1 c1 xs1 _ ((HR1.out.below HB1.out (Nat.le_refl _)).more HB1.out.size) hl1).mono ?_); rintro e w2 ⟨vs1, rfl, hrs1, hb_2⟩); have hz_2 := hb_2.size; (try simp only [World.size_alloc, World.size_setCell, World.size_drew] at hz_2)
      have HB2 : Hid (Below w.heap.size w w2) := HB1.out.trans (hb_2.mono HB1.out.size)
      have HKs0 : Hid (Below w1.heap.size w1 w2) := HKs0.out.trans (hb_2.mono HKs0.out.size)
      have HP := Lib.hid (HP.out.keep hb_2); clear cP; have cP := HP.out.cell
      clear hb_2 hz_2
      have HSs1 := Lib.hid hrs1
      obtain ⟨Bs1, ds1, rfl, _⟩ := hrs1
      have HKs1 : Hid (Below w2.heap.size w2 w2) := Below.refl _ _
      go_wp2_with fail; ((with_reducible refine (specZoneValid_any B0 Bs0 Bs1 ds0 ds1 xs0 xs1 _ (HSs0.out.below HKs0.out).reads.1 (HSs1.out.below HKs1.out).reads.1 hl0 hl1).mono ?_); rintro e w3 ⟨rfl, hb_3⟩); have hz_3 := hb_3.size; (try simp only [World.size_alloc, World.size_setCell, World.size_drew] at hz_3)
      have HB3 : Hid (Below w.heap.size w w3) := HB2.out.trans (hb_3.mono HB2.out.size)
      have HKs0 : Hid (Below w1.heap.size w1 w3) := HKs0.out.trans (hb_3.mono HKs0.out.size)
      have HKs1 : Hid (Below w2.heap.size w2 w3) := HKs1.out.trans (hb_3.mono HKs1.out.size)
      have HP := Lib.hid (HP.out.keep hb_3); clear cP; have cP := HP.out.cell
      clear hb_3 hz_3
      go_wp2_with fail; ((with_reducible refine (toNet_any B0 A0 c0 xs0 _ ((HR0.out.below HB3.out (Nat.le_refl _)).more HB3.out.size) hl0).mono ?_); rintro e w4 ⟨vx0, rfl, hrx0, hb_4⟩); have hz_4 := hb_4.size; (try simp only [World.size_alloc, World.size_setCell, World.size_drew] at hz_4)
      have HB4 : Hid (Below w.heap.size w w4) := HB3.out.trans (hb_4.mono HB3.out.size)
      have HP := Lib.hid (HP.out.keep hb_4); clear cP; have cP := HP.out.cell
      clear hb_4 hz_4
      have HSx0 := Lib.hid hrx0
      obtain ⟨Bx0, dx0, rfl, _⟩ := hrx0
      have HKx0 : Hid (Below w4.heap.size w4 w4) := Below.refl _ _
      have HB5 : Hid (Below w.heap.size w (w4.alloc (.cells #[.int .i64 B0, .slice Bx0 xs0.length dx0] 30))) := HB4.out.alloc HB4.out.size _
      have HKx0 : Hid (Below w4.heap.size w4 (w4.alloc (.cells #[.int .i64 B0, .slice Bx0 xs0.length dx0] 30))) := HKx0.out.alloc HKx0.out.size _
      have HP := Lib.hid (HP.out.alloc (.cells #[.int .i64 B0, .slice Bx0 xs0.length dx0] 30)); clear cP; have cP := HP.out.cell
      have HX : Hid (Bk (w4.alloc (.cells #[.int .i64 B0, .slice Bx0 xs0.length dx0] 30)) w4.heap.size 30 #[.int .i64 B0, .slice Bx0 xs0.length dx0]) := Bk.new _ _ _
      have cX := HX.out.cell
      go_wp2_with fail; ((with_reducible refine (toIntS_any A1 c1 xs1 _ ((HR1.out.below HB5.out (Nat.le_refl _)).more HB5.out.size) hl1).mono ?_); rintro e w6 ⟨vx1, rfl, hrx1, hb_5⟩); have hz_5 := hb_5.size; (try simp only [World.size_alloc, World.size_setCell, World.size_drew] at hz_5)
      have HB6 : Hid (Below w.heap.size w w6) := HB5.out.trans (hb_5.mono HB5.out.size)
      have HKx0 : Hid (Below w4.heap.size w4 w6) := HKx0.out.trans (hb_5.mono HKx0.out.size)
      have HP := Lib.hid (HP.out.keep hb_5); clear cP; have cP := HP.out.cell
      have HX := Lib.hid (HX.out.keep hb_5); clear cX; have cX := HX.out.cell
      clear hb_5 hz_5
      have HSx1 := Lib.hid hrx1
      obtain ⟨Bx1, dx1, rfl, _⟩ := hrx1
      have HKx1 : Hid (Below w6.heap.size w6 w6) := Below.refl _ _
      go_wp2_with fail; ((with_reducible refine (implZoneValid_any B0 Bx0 Bx1 dx0 dx1 xs0 xs1 _ (HSx0.out.below HKx0.out).reads.1 (HSx1.out.below HKx1.out).reads.1 hl0 hl1).mono ?_); rintro e w7 ⟨rfl, hb_6⟩); have hz_6 := hb_6.size; (try simp only [World.size_alloc, World.size_setCell, World.size_drew] at hz_6)
      have HB7 : Hid (Below w.heap.size w w7) := HB6.out.trans (hb_6.mono HB6.out.size)
      have HKx0 : Hid (Below w4.heap.size w4 w7) := HKx0.out.trans (hb_6.mono HKx0.out.size)
      have HKx1 : Hid (Below w6.heap.size w6 w7) := HKx1.out.trans (hb_6.mono HKx1.out.size)
      have HP := Lib.hid (HP.out.keep hb_6); clear cP; have cP := HP.out.cell
      have HX := Lib.hid (HX.out.keep hb_6); clear cX; have cX := HX.out.cell
      clear hb_6 hz_6
      have HZP := Lib.hid HP.out.lt; have zP := HZP.out; have zX := HX.out.lt
      have hrd : Reads 3 r3C w7.drew w7.drew.heap.size A0 xs0 := (HR0.out.below HB7.out (Nat.le_refl _)).more HB7.out.size
      have HRD := Lib.hid hrd; clear hrd
      have hsd := (HSx0.out.below HKx0.out)
      have HSD : Hid (Res 3 r3C 85 w7.drew w3.heap.size (.slice Bx0 xs0.length dx0) xs0) := hsd
      clear hsd
      go_upto_region 13 with fail
      go_region_held3 (fun w' => w'.cell? ⟨w.heap.size, 0, none⟩ = some (.int .i64 B0) ∧ w'.cell? ⟨w.heap.size, 1, none⟩ = some (.slice A0 xs0.length c0) ∧ w'.cell? ⟨w4.heap.size, 0, none⟩ = some (.int .i64 B0) ∧ w'.cell? ⟨w4.heap.size, 1, none⟩ = some (.slice Bx0 xs0.length dx0)) (simp [go_sem, World.cell?_alloc_past, *])
        (first | (go_at_call 10; (with_reducible refine (toNet_any B0 A0 c0 xs0 _ (by exact HRD.out) hl0).mono ?_); rintro e wa ⟨va, rfl, hra, hba⟩; have HRA := Lib.hid hra; have HBA := Lib.hid hba; have HSE := Lib.hid (HSD.out.below hba); have cB0 := keepB hba (g := w.heap.size) zP; have cB1 := keepB hba (g := w4.heap.size) zX; have zA := keepZ hba (g := w.heap.size) zP; have zE := keepZ hba (g := w4.heap.size) zX; obtain ⟨Ba, da, rfl, _⟩ := hra; clear hba) | (go_at_call 13; (with_reducible refine (eqNet_any B0 Bx0 Ba dx0 da xs0 _ (by exact HSE.out.reads.1) (by exact HRA.out.reads.1) hl0).mono ?_); rintro e wb ⟨rfl, hbb⟩; have HBB := Lib.hid hbb; have cD0 := keepB hbb (g := w.heap.size) zA; have cD1 := keepB hbb (g := w4.heap.size) zE; clear hbb))
      have HBD : Hid (Below w7.heap.size w7 wb) := undrew (HBA.out.trans (HBB.out.mono HBA.out.size))
      have HB8 : Hid (Below w.heap.size w wb) := HB7.out.trans (HBD.out.mono HB7.out.size)
      have HKx0 : Hid (Below w4.heap.size w4 wb) := HKx0.out.trans (HBD.out.mono HKx0.out.size)
      have HKx1 : Hid (Below w6.heap.size w6 wb) := HKx1.out.trans (HBD.out.mono HKx1.out.size)
      have HP := Lib.hid (HP.out.keep HBD.out); clear cP; have cP := HP.out.cell
      have HX := Lib.hid (HX.out.keep HBD.out); clear cX; have cX := HX.out.cell
      clear HX cX
      go_wp2_with fail; ((with_reducible refine (toIntS_any A1 c1 xs1 _ ((HR1.out.below HB8.out (Nat.le_refl _)).more HB8.out.size) hl1).mono ?_); rintro e w9 ⟨vy1, rfl, hry1, hb_7⟩); have hz_7 := hb_7.size; (try simp only [World.size_alloc, World.size_setCell, World.size_drew] at hz_7)
      have HB9 : Hid (Below w.heap.size w w9) := HB8.out.trans (hb_7.mono HB8.out.size)
      have HKx1 : Hid (Below w6.heap.size w6 w9) := HKx1.out.trans (hb_7.mono HKx1.out.size)
      have HP := Lib.hid (HP.out.keep hb_7); clear cP; have cP := HP.out.cell
      clear hb_7 hz_7
      have HSy1 := Lib.hid hry1
      obtain ⟨By1, dy1, rfl, _⟩ := hry1
      have HKy1 : Hid (Below w9.heap.size w9 w9) := Below.refl _ _
      go_wp2_with fail; ((with_reducible refine (eqIntS_any Bx1 By1 dx1 dy1 xs1 w9 (HSx1.out.below HKx1.out).reads.1 (HSy1.out.below HKy1.out).reads.1 hl1).mono ?_); rintro e w10 ⟨rfl, hb_8⟩); have hz_8 := hb_8.size; (try simp only [World.size_alloc, World.size_setCell, World.size_drew] at hz_8)
      have HB10 : Hid (Below w.heap.size w w10) := HB9.out.trans (hb_8.mono HB9.out.size)
      have HKx1 : Hid (Below w6.heap.size w6 w10) := HKx1.out.trans (hb_8.mono HKx1.out.size)
      have HKy1 : Hid (Below w9.heap.size w9 w10) := HKy1.out.trans (hb_8.mono HKy1.out.size)
      have HP := Lib.hid (HP.out.keep hb_8); clear cP; have cP := HP.out.cell
      clear hb_8 hz_8
      go_wp2
      go_ret
      exact ⟨rfl, HB10.out⟩
    · go_enter Try.func3, Try.ntmps3
      go_wp2_with fail
      refine (szNet_any B0 A0 xs0.length c0 _ _ (by omega) (by omega) (by omega)).mono ?_
      rintro e z0 ⟨rfl, hz0⟩
      have HZ0 := Lib.hid hz0; clear hz0
      have cQ := ((Bk.new w 24 #[.int .i64 B0, .slice A0 xs0.length c0]).keep HZ0.out).cell
      rw [if_neg (by omega)]
      go_wp2_with fail
      go_ret
      refine ⟨rfl, ?_⟩; have hz0 := HZ0.out; (repeat' (first | (with_reducible exact Below.refl _ _) | (with_reducible refine Below.alloc ?_ ?_ _) | (with_reducible refine Below.setCell ?_ ?_ _) | (with_reducible refine Below.drew ?_) | (refine Below.trans ?_ (Below.mono (by with_reducible assumption) ?_)) | go_size))
  · have hl1' : (1048576 : Int) < xs1.length := by omega
    go_enter Try.func3, Try.ntmps3
    go_wp2_with fail
    go_ret
    refine ⟨rfl, ?_⟩; (repeat' (first | (with_reducible exact Below.refl _ _) | (with_reducible refine Below.alloc ?_ ?_ _) | (with_reducible refine Below.setCell ?_ ?_ _) | (with_reducible refine Below.drew ?_) | (refine Below.trans ?_ (Below.mono (by with_reducible assumption) ?_)) | go_size))
end Go.Proofs.Ytdfgdeccejcpfaa
