/- The law FnRampRange: its walk. -/
import Derived.Test.YtcpopbkcphpdfaaDoorDrN
import Derived.Test.YtcpopbkcphpdfaaDoorLwR
import Derived.Test.YtcpopbkcphpdfaaDoorLwS
import Derived.Test.YtcpopbkcphpdfaaDoorAlive
namespace Go.Proofs.YtcpopbkcphpdfaaDoor
open Go.RowKit Go.Deep
set_option linter.unusedSimpArgs false
set_option linter.unusedVariables false

theorem sumZ_I : ∀ xs : List Int, sumZ xs = sumI xs
  | [] => rfl
  | x :: xs => by simp only [sumZ, sumI, sumZ_I xs]

set_option maxRecDepth 100000 in
set_option maxHeartbeats 8000000 in
theorem fnRampRange_any (A : Option Addr) (n c : Nat) (bs : List Int) (w : World) (hn : bs.length = n) (hb : ∀ x ∈ bs, U8 x) (hc : n ≤ c) (hcm : c ≤ maxLen) (hR : Reads 1 byteC w w.heap.size A bs) :
    Calls Tryd.prog 9 #[.slice A n c] w fun e w' => e = .returned (.bool true) ∧ Below w.heap.size w w' := by
  unfold maxLen at hcm
  subst hn
  have HR := Lib.hid hR; clear hR
  have HB := Lib.hid hb; clear hb
  have HB_w : Hid (Below w.heap.size w w) := Below.refl _ _
  have hbb : ∀ x : Bool, (x != x) = false := fun x => by simp
  have hnn : ∀ x : Int, (x != x) = false := fun x => by simp
  by_cases hl : ¬ bs.length ≤ 1048576
  · have hl' : (1048576 : Int) < bs.length := by omega
    go_enter Tryd.func9, Tryd.ntmps9
    go_wp2_with fail
    go_ret
    exact ⟨rfl, Below.refl _ _⟩
  have hl : bs.length ≤ 1048576 := by omega
  have hl' : ¬ (1048576 : Int) < bs.length := by omega
  go_enter Tryd.func9, Tryd.ntmps9
  go_wp2_with fail; ((with_reducible refine (drawRampRange_any A c bs w HR.out HB.out hl hc hcm).mono ?_); rintro e w1 ⟨A1, A2, A3, c1, c2, c3, us, rs, ys, rfl, hu1, hu7, hus, hrl, hrs, hy7, hys, hd1, hd2, hd3, hb_w1⟩); have HB_w1 : Hid (Below w.heap.size w w1) := HB_w.out.trans (hb_w1.mono HB_w.out.size); clear hb_w1
  have HD_w1 := Lib.hid hd1; have HE_w1 := Lib.hid hd2; have HF_w1 := Lib.hid hd3; have HYS := Lib.hid hys; have HRL := Lib.hid hrl; clear hd1 hd2 hd3 hus hrl hrs hys
  have hul : us.length ≤ 1048576 := by omega
  have hrl1 : rs.length ≤ 1048576 := by rw [HRL.out]; exact hul
  have hyl : ys.length ≤ 1048576 := by omega
  go_wp2_with fail; ((with_reducible refine (implRampRange_any A1 A2 A3 c1 c2 c3 us rs ys w1 HD_w1.out.reads.1 HE_w1.out.reads.1 HF_w1.out.reads.1 hul hrl1 hyl).mono ?_); rintro e w2 ⟨rfl, hb_w2⟩); have HB_w2 : Hid (Below w.heap.size w w2) := HB_w1.out.trans (hb_w2.mono HB_w1.out.size); have HD_w2 := Lib.hid (HD_w1.out.below hb_w2); have HE_w2 := Lib.hid (HE_w1.out.below hb_w2); have HF_w2 := Lib.hid (HF_w1.out.below hb_w2); clear hb_w2
  go_wp2_with fail; ((with_reducible refine (specRampRange_any A1 A2 A3 c1 c2 c3 us rs ys w2 HD_w2.out.reads.1 HE_w2.out.reads.1 HF_w2.out.reads.1 hul hrl1 hyl).mono ?_); rintro e w3 ⟨rfl, hb_w3⟩); have HB_w3 : Hid (Below w.heap.size w w3) := HB_w2.out.trans (hb_w3.mono HB_w2.out.size); have HD_w3 := Lib.hid (HD_w2.out.below hb_w3); have HE_w3 := Lib.hid (HE_w2.out.below hb_w3); have HF_w3 := Lib.hid (HF_w2.out.below hb_w3); clear hb_w3
  by_cases hp : RampP us rs ys
  · obtain ⟨lo, hi, e1, e2, h1, h2, h3, h4, s1, s2, s3, s4, s5⟩ := range_law hp hu1
    rw [e1, e2]
    clear e1 e2 hp
    have HN : Hid (∀ (L : Int) (W : World) (b : Bool), I64 L → (rampN us rs ys L).isSome = b → Reads 4 r4C W W.heap.size A1 us → Reads 1 intC W W.heap.size A2 rs → Reads 1 intC W W.heap.size A3 ys → Calls Tryd.prog 40 #[.slice A1 us.length c1, .slice A2 rs.length c2, .slice A3 ys.length c3, .int .i64 L] W fun e w' => ∃ v, e = .returned (.tuple #[v, .bool b]) ∧ Below W.heap.size W w') := fun L W b hL hb r1 r2 r3 => by
      have := implRampNext_any A1 A2 A3 c1 c2 c3 us rs ys L hL W r1 r2 r3 hul hrl1 hyl
      unfold RetD at this
      rw [hb] at this
      refine this.mono ?_
      rintro e w' ⟨v, rfl, _, hb'⟩
      exact ⟨v, rfl, hb'⟩
    have HSU : Hid (∀ W, Reads 1 intC W W.heap.size A3 ys → Calls Tryd.prog 36 #[.slice A3 ys.length c3] W fun e w' => e = .returned (.int .i64 (sumI ys)) ∧ Below W.heap.size W w') := fun W h => by
      have := sumOf_any A3 c3 ys W h (by omega) (fun y hy => by have := HYS.out y hy; omega)
      rw [sumZ_I] at this; exact this
    generalize sumI ys = S at h2 h3 s3 HSU
    have HS := Lib.hid (And.intro s1 (And.intro s2 (And.intro s3 (And.intro s4 s5)))); clear s1 s2 s3 s4 s5
    have hlo : ¬ lo < 0 := by omega
    have hI : ∀ L : Int, -10 ≤ L → L ≤ 6000 → I64 L := fun L a b => by unfold I64; omega
    have HI := Lib.hid hI; clear hI
    go_wp2_with fail; ((with_reducible refine (HN.out lo w3 true (HI.out _ (by omega) (by omega)) HS.out.1 HD_w3.out.reads.1 HE_w3.out.reads.1 HF_w3.out.reads.1).mono ?_); rintro e w4 ⟨v4, rfl, hb_w4⟩); have HB_w4 : Hid (Below w.heap.size w w4) := HB_w3.out.trans (hb_w4.mono HB_w3.out.size); have HD_w4 := Lib.hid (HD_w3.out.below hb_w4); have HE_w4 := Lib.hid (HE_w3.out.below hb_w4); have HF_w4 := Lib.hid (HF_w3.out.below hb_w4); clear hb_w4
    go_wp2_with fail; ((with_reducible refine (HN.out hi w4 true (HI.out _ (by omega) (by omega)) HS.out.2.1 HD_w4.out.reads.1 HE_w4.out.reads.1 HF_w4.out.reads.1).mono ?_); rintro e w5 ⟨v5, rfl, hb_w5⟩); have HB_w5 : Hid (Below w.heap.size w w5) := HB_w4.out.trans (hb_w5.mono HB_w4.out.size); have HD_w5 := Lib.hid (HD_w4.out.below hb_w5); have HE_w5 := Lib.hid (HE_w4.out.below hb_w5); have HF_w5 := Lib.hid (HF_w4.out.below hb_w5); clear hb_w5
    go_wp2_with fail; ((with_reducible refine (HSU.out w5 HF_w5.out.reads.1).mono ?_); rintro e w6 ⟨rfl, hb_w6⟩); have HB_w6 : Hid (Below w.heap.size w w6) := HB_w5.out.trans (hb_w6.mono HB_w5.out.size); have HD_w6 := Lib.hid (HD_w5.out.below hb_w6); have HE_w6 := Lib.hid (HE_w5.out.below hb_w6); have HF_w6 := Lib.hid (HF_w5.out.below hb_w6); clear hb_w6
    go_wp2_with fail; ((with_reducible refine (HN.out S w6 true (HI.out _ (by omega) (by omega)) HS.out.2.2.1 HD_w6.out.reads.1 HE_w6.out.reads.1 HF_w6.out.reads.1).mono ?_); rintro e w7 ⟨v7, rfl, hb_w7⟩); have HB_w7 : Hid (Below w.heap.size w w7) := HB_w6.out.trans (hb_w7.mono HB_w6.out.size); have HD_w7 := Lib.hid (HD_w6.out.below hb_w7); have HE_w7 := Lib.hid (HE_w6.out.below hb_w7); have HF_w7 := Lib.hid (HF_w6.out.below hb_w7); clear hb_w7
    go_wp2_with fail; ((with_reducible refine (HN.out (lo - 1) w7 false (HI.out _ (by omega) (by omega)) HS.out.2.2.2.1 HD_w7.out.reads.1 HE_w7.out.reads.1 HF_w7.out.reads.1).mono ?_); rintro e w8 ⟨v8, rfl, hb_w8⟩); have HB_w8 : Hid (Below w.heap.size w w8) := HB_w7.out.trans (hb_w8.mono HB_w7.out.size); have HD_w8 := Lib.hid (HD_w7.out.below hb_w8); have HE_w8 := Lib.hid (HE_w7.out.below hb_w8); have HF_w8 := Lib.hid (HF_w7.out.below hb_w8); clear hb_w8
    go_wp2_with fail; ((with_reducible refine (HN.out (hi + 1) w8 false (HI.out _ (by omega) (by omega)) HS.out.2.2.2.2 HD_w8.out.reads.1 HE_w8.out.reads.1 HF_w8.out.reads.1).mono ?_); rintro e w9 ⟨v9, rfl, hb_w9⟩); have HB_w9 : Hid (Below w.heap.size w w9) := HB_w8.out.trans (hb_w9.mono HB_w8.out.size); have HD_w9 := Lib.hid (HD_w8.out.below hb_w9); have HE_w9 := Lib.hid (HE_w8.out.below hb_w9); have HF_w9 := Lib.hid (HF_w8.out.below hb_w9); clear hb_w9
    go_wp2_with fail; ((with_reducible refine (HSU.out w9 HF_w9.out.reads.1).mono ?_); rintro e w10 ⟨rfl, hb_w10⟩); have HB_w10 : Hid (Below w.heap.size w w10) := HB_w9.out.trans (hb_w10.mono HB_w9.out.size); have HF_w10 := Lib.hid (HF_w9.out.below hb_w10); clear hb_w10
    go_wp2_with fail; ((with_reducible refine (HSU.out w10 HF_w10.out.reads.1).mono ?_); rintro e w11 ⟨rfl, hb_w11⟩); have HB_w11 : Hid (Below w.heap.size w w11) := HB_w10.out.trans (hb_w11.mono HB_w10.out.size); clear hb_w11
    go_wp2_with fail
    go_ret
    exact ⟨rfl, HB_w11.out⟩
  · have e1 : rngLo (rampOut us rs ys) = -1 := by rw [rampOut_f hp]; rfl
    have e2 : rngHi (rampOut us rs ys) = -1 := by rw [rampOut_f hp]; rfl
    rw [e1, e2]
    clear e1 e2 hp
    go_wp2_with fail; ((with_reducible refine (alive_any w3).mono ?_); rintro e w4 ⟨rfl, hb_w4⟩); have HB_w4 : Hid (Below w.heap.size w w4) := HB_w3.out.trans (hb_w4.mono HB_w3.out.size); clear hb_w4
    go_wp2_with fail
    go_ret
    exact ⟨rfl, HB_w4.out⟩
end Go.Proofs.YtcpopbkcphpdfaaDoor
