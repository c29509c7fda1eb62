/- laws.FnExactShedFirst: its walk: every call returns true, whatever the input. -/
import Derived.Test.YtecekhjlapaofaaSfI
import Derived.Test.YtecekhjlapaofaaSfS
import Derived.Test.YtecekhjlapaofaaMkInt
import Derived.Test.YtecekhjlapaofaaMkBlock
import Derived.Test.YtecekhjlapaofaaSzB
import Derived.Test.YtecekhjlapaofaaSl1
namespace Go.Proofs.Ytecekhjlapaofaa
open Go.RowKit
set_option linter.unusedSimpArgs false
set_option linter.unusedVariables false

set_option maxHeartbeats 4000000 in
theorem fnExactShedFirst_any (A0 : Option Addr) (n0 c0 : Nat) (xs0 : List R2) (a1 : Int) (w : World) (hn0 : xs0.length = n0) (hg0 : ∀ x ∈ xs0, G2 x) (hnc0 : n0 ≤ c0) (hcm0 : c0 ≤ maxLen) (hR0 : Reads 2 r2C w w.heap.size A0 xs0) (ha1 : I64 a1) :
    Calls Try.prog 5 #[.slice A0 n0 c0, .int .i64 a1] w fun e w' => e = .returned (.bool true) ∧ Below w.heap.size w w' := by
  unfold maxLen at hcm0
  subst hn0
  have HR0 := Lib.hid hR0; clear hR0
  have HG0 := Lib.hid hg0; clear hg0
  have hnn : ∀ x : Int, (x != x) = false := fun x => by simp
  have hbb : ∀ x : Bool, (x != x) = false := fun x => by simp
  by_cases hs0 : (xs0.length : Int) ≤ 1048576
  · have hl0 : xs0.length ≤ 1048576 := by omega
    have hd0 : (0 : Int) ≤ 1048576 - xs0.length := by omega
    have HOL : Hid (((sfO xs0 a1).getD []).length ≤ 1048576) := by unfold Hid; exact Nat.le_trans (sfO_len xs0 a1) (by omega)
    generalize hout : (sfO xs0 a1).getD [] = out at HOL
    have HOUT := Lib.hid hout; clear hout
    generalize hob : (sfO xs0 a1).isSome = ob
    have HOB := Lib.hid hob; clear hob
    go_enter Try.func5, Try.ntmps5
    go_wp2_with fail
    refine (szBlockS_any A0 xs0.length c0 _ _ (by omega) (by omega) (by omega)).mono ?_
    rintro e w0 ⟨rfl, rfl⟩
    rw [if_pos (by omega)]
    have HB0 : Hid (Below w.heap.size w w) := Below.refl _ _
    go_wp2_with fail; ((with_reducible refine (toBlockS_any A0 c0 xs0 w ((HR0.out.below HB0.out (Nat.le_refl _)).more HB0.out.size) hl0).mono ?_); rintro e w1 ⟨vs0, rfl, hrs0, hb_1⟩); have hz_1 := hb_1.size; (try simp only [World.size_alloc, World.size_setCell, World.size_drew] at hz_1)
    have HB1 : Hid (Below w.heap.size w w1) := HB0.out.trans (hb_1.mono HB0.out.size)
    clear hb_1
    have HSs0 := Lib.hid hrs0
    obtain ⟨Bs0, ds0, rfl, _⟩ := hrs0
    have HEs0 := Lib.hid HSs0.out.top
    have HKs0 : Hid (Below w1.heap.size w1 w1) := Below.refl _ _
    go_wp2_with fail; ((with_reducible refine (retp HOUT.out HOB.out (specShedFirst_any Bs0 ds0 xs0 a1 w1 (HSs0.out.below HKs0.out).reads.1 hl0)).mono ?_); rintro e w2 ⟨vw, rfl, hrw, hb_2⟩); have hz_2 := hb_2.size; (try simp only [World.size_alloc, World.size_setCell, World.size_drew] at hz_2)
    have HB2 : Hid (Below w.heap.size w w2) := HB1.out.trans (hb_2.mono HB1.out.size)
    have HKs0 : Hid (Below w1.heap.size w1 w2) := HKs0.out.trans (hb_2.mono HKs0.out.size)
    clear hb_2
    have HSw := Lib.hid hrw
    obtain ⟨Bw, dw, rfl, _⟩ := hrw
    have HEw := Lib.hid HSw.out.top
    have HKw : Hid (Below w2.heap.size w2 w2) := Below.refl _ _
    go_wp2_with fail; ((with_reducible refine (toBlockS_any A0 c0 xs0 w2 ((HR0.out.below HB2.out (Nat.le_refl _)).more HB2.out.size) hl0).mono ?_); rintro e w3 ⟨vx0, rfl, hrx0, hb_3⟩); have hz_3 := hb_3.size; (try simp only [World.size_alloc, World.size_setCell, World.size_drew] at hz_3)
    have HB3 : Hid (Below w.heap.size w w3) := HB2.out.trans (hb_3.mono HB2.out.size)
    have HKw : Hid (Below w2.heap.size w2 w3) := HKw.out.trans (hb_3.mono HKw.out.size)
    clear hb_3
    have HSx0 := Lib.hid hrx0
    obtain ⟨Bx0, dx0, rfl, _⟩ := hrx0
    have HEx0 := Lib.hid HSx0.out.top
    have HKx0 : Hid (Below w3.heap.size w3 w3) := Below.refl _ _
    go_wp2_with fail; ((with_reducible refine (retp HOUT.out HOB.out (implShedFirst_any Bx0 dx0 xs0 a1 ha1 w3 (HSx0.out.below HKx0.out).reads.1 hl0)).mono ?_); rintro e w4 ⟨vg, rfl, hrg, hb_4⟩); have hz_4 := hb_4.size; (try simp only [World.size_alloc, World.size_setCell, World.size_drew] at hz_4)
    have HB4 : Hid (Below w.heap.size w w4) := HB3.out.trans (hb_4.mono HB3.out.size)
    have HKw : Hid (Below w2.heap.size w2 w4) := HKw.out.trans (hb_4.mono HKw.out.size)
    have HKx0 : Hid (Below w3.heap.size w3 w4) := HKx0.out.trans (hb_4.mono HKx0.out.size)
    clear hb_4
    have HSg := Lib.hid hrg
    obtain ⟨Bg, dg, rfl, _⟩ := hrg
    have HEg := Lib.hid HSg.out.top
    have HKg : Hid (Below w4.heap.size w4 w4) := Below.refl _ _
    go_wp2_with fail; ((with_reducible refine (eqIntS_any Bg Bw dg dw out w4 (HSg.out.below HKg.out).reads.1 (HSw.out.below HKw.out).reads.1 HOL.out).mono ?_); rintro e w5 ⟨rfl, hb_5⟩); have hz_5 := hb_5.size; (try simp only [World.size_alloc, World.size_setCell, World.size_drew] at hz_5)
    have HB5 : Hid (Below w.heap.size w w5) := HB4.out.trans (hb_5.mono HB4.out.size)
    have HKw : Hid (Below w2.heap.size w2 w5) := HKw.out.trans (hb_5.mono HKw.out.size)
    have HKx0 : Hid (Below w3.heap.size w3 w5) := HKx0.out.trans (hb_5.mono HKx0.out.size)
    have HKg : Hid (Below w4.heap.size w4 w5) := HKg.out.trans (hb_5.mono HKg.out.size)
    clear hb_5
    go_wp2_with fail; ((with_reducible refine (toBlockS_any A0 c0 xs0 w5 ((HR0.out.below HB5.out (Nat.le_refl _)).more HB5.out.size) hl0).mono ?_); rintro e w6 ⟨vy0, rfl, hry0, hb_6⟩); have hz_6 := hb_6.size; (try simp only [World.size_alloc, World.size_setCell, World.size_drew] at hz_6)
    have HB6 : Hid (Below w.heap.size w w6) := HB5.out.trans (hb_6.mono HB5.out.size)
    have HKw : Hid (Below w2.heap.size w2 w6) := HKw.out.trans (hb_6.mono HKw.out.size)
    have HKx0 : Hid (Below w3.heap.size w3 w6) := HKx0.out.trans (hb_6.mono HKx0.out.size)
    have HKg : Hid (Below w4.heap.size w4 w6) := HKg.out.trans (hb_6.mono HKg.out.size)
    clear hb_6
    have HSy0 := Lib.hid hry0
    obtain ⟨By0, dy0, rfl, _⟩ := hry0
    have HEy0 := Lib.hid HSy0.out.top
    have HKy0 : Hid (Below w6.heap.size w6 w6) := Below.refl _ _
    go_wp2_with fail; ((with_reducible refine (eqBlockS_any Bx0 By0 dx0 dy0 xs0 w6 (HSx0.out.below HKx0.out).reads.1 (HSy0.out.below HKy0.out).reads.1 hl0).mono ?_); rintro e w7 ⟨rfl, hb_7⟩); have hz_7 := hb_7.size; (try simp only [World.size_alloc, World.size_setCell, World.size_drew] at hz_7)
    have HB7 : Hid (Below w.heap.size w w7) := HB6.out.trans (hb_7.mono HB6.out.size)
    have HKw : Hid (Below w2.heap.size w2 w7) := HKw.out.trans (hb_7.mono HKw.out.size)
    have HKx0 : Hid (Below w3.heap.size w3 w7) := HKx0.out.trans (hb_7.mono HKx0.out.size)
    have HKg : Hid (Below w4.heap.size w4 w7) := HKg.out.trans (hb_7.mono HKg.out.size)
    have HKy0 : Hid (Below w6.heap.size w6 w7) := HKy0.out.trans (hb_7.mono HKy0.out.size)
    clear hb_7
    obtain ⟨M1, hM1⟩ : ∃ M : Int, 1 + ((xs0.length * 2 : Nat) : Int) = M := ⟨_, rfl⟩
    have hM1a : 1 ≤ M1 ∧ M1 ≤ 1 + 4194304 := by have := hl0; omega
    obtain ⟨hM1a, hM1b⟩ := hM1a
    have HM1 := Lib.hid hM1; clear hM1
    go_wp2_with fail; ((with_reducible refine (markBlockS_any (.slice Bx0 xs0.length dx0) (1) xs0 w7 _ _ (HSx0.out.below HKx0.out) HEx0.out hl0 (by omega) (by omega) M1 HM1.out).mono ?_); rintro e w8 ⟨rfl, hk_1, hs_1⟩)
    have hzz_1 := hk_1.size
    have HB8 : Hid (Below w.heap.size w w8) := HB7.out.trans (hk_1.below (by have := HB7.out.size; omega))
    have HKw : Hid (Below w2.heap.size w2 w8) := HKw.out.trans (hk_1.below (by omega))
    have HSg := Lib.hid ((HSg.out.below HKg.out).mk_up hk_1 (by omega))
    have HKg : Hid (Below w8.heap.size w8 w8) := Below.refl _ _
    have HSx0 := Lib.hid hs_1
    have HKx0 : Hid (Below w8.heap.size w8 w8) := Below.refl _ _
    clear hs_1 hk_1
    go_wp2_with fail; ((with_reducible refine (eqIntS_any Bg Bw dg dw out w8 (HSg.out.below HKg.out).reads.1 (HSw.out.below HKw.out).reads.1 HOL.out).mono ?_); rintro e w9 ⟨rfl, hb_8⟩); have hz_8 := hb_8.size; (try simp only [World.size_alloc, World.size_setCell, World.size_drew] at hz_8)
    have HB9 : Hid (Below w.heap.size w w9) := HB8.out.trans (hb_8.mono HB8.out.size)
    have HKw : Hid (Below w2.heap.size w2 w9) := HKw.out.trans (hb_8.mono HKw.out.size)
    have HKg : Hid (Below w8.heap.size w8 w9) := HKg.out.trans (hb_8.mono HKg.out.size)
    clear hb_8
    obtain ⟨M2, hM2⟩ : ∃ M : Int, 1 + ((out.length * 1 : Nat) : Int) = M := ⟨_, rfl⟩
    have hM2a : 1 ≤ M2 ∧ M2 ≤ 1 + 4194304 := by have := HOL.out; omega
    obtain ⟨hM2a, hM2b⟩ := hM2a
    have HM2 := Lib.hid hM2; clear hM2
    go_wp2_with fail; ((with_reducible refine (markIntS_any (.slice Bg out.length dg) (1) out w9 _ _ (HSg.out.below HKg.out) HEg.out HOL.out (by omega) (by omega) M2 HM2.out).mono ?_); rintro e w10 ⟨rfl, hk_2, hs_2⟩)
    have hzz_2 := hk_2.size
    have HB10 : Hid (Below w.heap.size w w10) := HB9.out.trans (hk_2.below (by have := HB9.out.size; omega))
    have HKw : Hid (Below w2.heap.size w2 w10) := HKw.out.trans (hk_2.below (by omega))
    have HSg := Lib.hid hs_2
    have HKg : Hid (Below w10.heap.size w10 w10) := Below.refl _ _
    clear hs_2 hk_2
    go_wp2_with fail; ((with_reducible refine (heldIntS_any (.slice Bg out.length dg) 1 out.length w10 _ (HSg.out.below HKg.out) HOL.out (by omega) (by omega) M2 HM2.out).mono ?_); rintro e w11 ⟨rfl, hb_9⟩); have hz_9 := hb_9.size; (try simp only [World.size_alloc, World.size_setCell, World.size_drew] at hz_9)
    have HB11 : Hid (Below w.heap.size w w11) := HB10.out.trans (hb_9.mono HB10.out.size)
    have HKw : Hid (Below w2.heap.size w2 w11) := HKw.out.trans (hb_9.mono HKw.out.size)
    have HKg : Hid (Below w10.heap.size w10 w11) := HKg.out.trans (hb_9.mono HKg.out.size)
    clear hb_9
    go_wp2_with fail; ((with_reducible refine (toBlockS_any A0 c0 xs0 w11 ((HR0.out.below HB11.out (Nat.le_refl _)).more HB11.out.size) hl0).mono ?_); rintro e w12 ⟨vz0, rfl, hrz0, hb_10⟩); have hz_10 := hb_10.size; (try simp only [World.size_alloc, World.size_setCell, World.size_drew] at hz_10)
    have HB12 : Hid (Below w.heap.size w w12) := HB11.out.trans (hb_10.mono HB11.out.size)
    have HKw : Hid (Below w2.heap.size w2 w12) := HKw.out.trans (hb_10.mono HKw.out.size)
    have HKg : Hid (Below w10.heap.size w10 w12) := HKg.out.trans (hb_10.mono HKg.out.size)
    clear hb_10
    have HSz0 := Lib.hid hrz0
    obtain ⟨Bz0, dz0, rfl, _⟩ := hrz0
    have HEz0 := Lib.hid HSz0.out.top
    have HKz0 : Hid (Below w12.heap.size w12 w12) := Below.refl _ _
    go_wp2_with fail; ((with_reducible refine (retp HOUT.out HOB.out (implShedFirst_any Bz0 dz0 xs0 a1 ha1 w12 (HSz0.out.below HKz0.out).reads.1 hl0)).mono ?_); rintro e w13 ⟨vh, rfl, hrh, hb_11⟩); have hz_11 := hb_11.size; (try simp only [World.size_alloc, World.size_setCell, World.size_drew] at hz_11)
    have HB13 : Hid (Below w.heap.size w w13) := HB12.out.trans (hb_11.mono HB12.out.size)
    have HKw : Hid (Below w2.heap.size w2 w13) := HKw.out.trans (hb_11.mono HKw.out.size)
    have HKg : Hid (Below w10.heap.size w10 w13) := HKg.out.trans (hb_11.mono HKg.out.size)
    have HKz0 : Hid (Below w12.heap.size w12 w13) := HKz0.out.trans (hb_11.mono HKz0.out.size)
    clear hb_11
    have HSh := Lib.hid hrh
    obtain ⟨Bh, dh, rfl, _⟩ := hrh
    have HEh := Lib.hid HSh.out.top
    have HKh : Hid (Below w13.heap.size w13 w13) := Below.refl _ _
    go_wp2_with fail; ((with_reducible refine (eqIntS_any Bh Bw dh dw out w13 (HSh.out.below HKh.out).reads.1 (HSw.out.below HKw.out).reads.1 HOL.out).mono ?_); rintro e w14 ⟨rfl, hb_12⟩); have hz_12 := hb_12.size; (try simp only [World.size_alloc, World.size_setCell, World.size_drew] at hz_12)
    have HB14 : Hid (Below w.heap.size w w14) := HB13.out.trans (hb_12.mono HB13.out.size)
    have HKw : Hid (Below w2.heap.size w2 w14) := HKw.out.trans (hb_12.mono HKw.out.size)
    have HKg : Hid (Below w10.heap.size w10 w14) := HKg.out.trans (hb_12.mono HKg.out.size)
    have HKh : Hid (Below w13.heap.size w13 w14) := HKh.out.trans (hb_12.mono HKh.out.size)
    clear hb_12
    go_wp2_with fail; ((with_reducible refine (heldIntS_any (.slice Bg out.length dg) 1 out.length w14 _ (HSg.out.below HKg.out) HOL.out (by omega) (by omega) M2 HM2.out).mono ?_); rintro e w15 ⟨rfl, hb_13⟩); have hz_13 := hb_13.size; (try simp only [World.size_alloc, World.size_setCell, World.size_drew] at hz_13)
    have HB15 : Hid (Below w.heap.size w w15) := HB14.out.trans (hb_13.mono HB14.out.size)
    have HKw : Hid (Below w2.heap.size w2 w15) := HKw.out.trans (hb_13.mono HKw.out.size)
    have HKg : Hid (Below w10.heap.size w10 w15) := HKg.out.trans (hb_13.mono HKg.out.size)
    have HKh : Hid (Below w13.heap.size w13 w15) := HKh.out.trans (hb_13.mono HKh.out.size)
    clear hb_13
    go_wp2
    go_ret
    exact ⟨rfl, HB15.out⟩
  · go_enter Try.func5, Try.ntmps5
    go_wp2_with fail
    refine (szBlockS_any A0 xs0.length c0 _ _ (by omega) (by omega) (by omega)).mono ?_
    rintro e w0 ⟨rfl, rfl⟩
    rw [if_neg (by omega)]
    go_wp2_with fail
    go_ret
    exact ⟨rfl, Below.refl _ _⟩
end Go.Proofs.Ytecekhjlapaofaa
