/- The law FnSpareOf: its walk. -/
import Derived.Test.YtcpopbkcphpdfaaDoorDrR
import Derived.Test.YtcpopbkcphpdfaaDoorLwQ
import Derived.Test.YtcpopbkcphpdfaaDoorAlive
namespace Go.Proofs.YtcpopbkcphpdfaaDoor
open Go.RowKit Go.Deep
set_option linter.unusedSimpArgs false
set_option linter.unusedVariables false

set_option maxRecDepth 100000 in
set_option maxHeartbeats 8000000 in
theorem fnSpareOf_any (A : Option Addr) (n c : Nat) (bs : List Int) (w : World) (hn : bs.length = n) (hb : ∀ x ∈ bs, U8 x) (hc : n ≤ c) (hcm : c ≤ maxLen) (hR : Reads 1 byteC w w.heap.size A bs) :
    Calls Tryd.prog 11 #[.slice A n c] w fun e w' => e = .returned (.bool true) ∧ Below w.heap.size w w' := by
  unfold maxLen at hcm
  subst hn
  have HR := Lib.hid hR; clear hR
  have HB := Lib.hid hb; clear hb
  have HB_w : Hid (Below w.heap.size w w) := Below.refl _ _
  have hbb : ∀ x : Bool, (x != x) = false := fun x => by simp
  have hnn : ∀ x : Int, (x != x) = false := fun x => by simp
  by_cases hl : ¬ bs.length ≤ 1048576
  · have hl' : (1048576 : Int) < bs.length := by omega
    go_enter Tryd.func11, Tryd.ntmps11
    go_wp2_with fail
    go_ret
    exact ⟨rfl, Below.refl _ _⟩
  have hl : bs.length ≤ 1048576 := by omega
  have hl' : ¬ (1048576 : Int) < bs.length := by omega
  go_enter Tryd.func11, Tryd.ntmps11
  go_wp2_with fail; ((with_reducible refine (drawSpareOf_any A c bs w HR.out HB.out hl hc hcm).mono ?_); rintro e w1 ⟨A1, A2, c1, c2, xs, on, L, rfl, h7, hs, h8, hL0, hL1, hd, hd2, hb_w1⟩); have HB_w1 : Hid (Below w.heap.size w w1) := HB_w.out.trans (hb_w1.mono HB_w.out.size); clear hb_w1
  have HD_w1 := Lib.hid hd; have HE_w1 := Lib.hid hd2; clear hd hd2 hs
  have hxl : xs.length ≤ 1048576 := by omega
  have hol : on.length ≤ 1048576 := by omega
  have hI : I64 L := by unfold I64; omega
  go_wp2_with fail; ((with_reducible refine (implSpareOf_any A1 A2 c1 c2 xs on L hI w1 HD_w1.out.reads.1 HE_w1.out.reads.1 hxl hol).mono ?_); rintro e w2 ⟨rfl, hb_w2⟩); have HB_w2 : Hid (Below w.heap.size w w2) := HB_w1.out.trans (hb_w2.mono HB_w1.out.size); have HD_w2 := Lib.hid (HD_w1.out.below hb_w2); have HE_w2 := Lib.hid (HE_w1.out.below hb_w2); clear hb_w2
  go_wp2_with fail; ((with_reducible refine (specSpareOf_any A1 A2 c1 c2 xs on L hI w2 HD_w2.out.reads.1 HE_w2.out.reads.1 hxl hol).mono ?_); rintro e w3 ⟨rfl, hb_w3⟩); have HB_w3 : Hid (Below w.heap.size w w3) := HB_w2.out.trans (hb_w3.mono HB_w2.out.size); have HD_w3 := Lib.hid (HD_w2.out.below hb_w3); have HE_w3 := Lib.hid (HE_w2.out.below hb_w3); clear hb_w3
  have HLW := Lib.hid (spr_law xs on L)
  rcases HLW.out with ⟨hx, hcm1⟩ | ⟨h1, h2, h3, h4, h5, h6, h7', h8'⟩
  · rw [hx]
    clear hx HLW
    have HCM := Lib.hid hcm1; clear hcm1
    go_wp2_with fail; ((with_reducible refine (implCommitCost_any A1 A2 c1 c2 xs on L hI w3 HD_w3.out.reads.1 HE_w3.out.reads.1 hxl hol).mono ?_); rintro e w4 ⟨rfl, hb_w4⟩); have HB_w4 : Hid (Below w.heap.size w w4) := HB_w3.out.trans (hb_w4.mono HB_w3.out.size); clear hb_w4
    rw [HCM.out]
    go_wp2_with fail; ((with_reducible refine (alive_any w4).mono ?_); rintro e w5 ⟨rfl, hb_w5⟩); have HB_w5 : Hid (Below w.heap.size w w5) := HB_w4.out.trans (hb_w5.mono HB_w4.out.size); clear hb_w5
    go_wp2_with fail
    go_ret
    exact ⟨rfl, HB_w5.out⟩
  · generalize sprC xs on L = x at h1 h2 h6 h7' h8' ⊢
    clear HLW
    have hI1 : I64 (L + x) := by unfold I64; omega
    have hI2 : I64 (L + x + 1) := by unfold I64; omega
    have H6 := Lib.hid (And.intro h6 (And.intro h7' h8')); clear h7' h8'
    generalize hy : comC xs on (L + x) = y at h6
    have HY := Lib.hid hy; clear hy
    go_wp2_with fail; ((with_reducible refine (implCommitCost_any A1 A2 c1 c2 xs on (L + x) hI1 w3 HD_w3.out.reads.1 HE_w3.out.reads.1 hxl hol).mono ?_); rintro e w4 ⟨rfl, hb_w4⟩); have HB_w4 : Hid (Below w.heap.size w w4) := HB_w3.out.trans (hb_w4.mono HB_w3.out.size); have HD_w4 := Lib.hid (HD_w3.out.below hb_w4); have HE_w4 := Lib.hid (HE_w3.out.below hb_w4); clear hb_w4
    rw [HY.out]
    go_wp2_with fail; ((with_reducible refine (implSpareOf_any A1 A2 c1 c2 xs on (L + x) hI1 w4 HD_w4.out.reads.1 HE_w4.out.reads.1 hxl hol).mono ?_); rintro e w5 ⟨rfl, hb_w5⟩); have HB_w5 : Hid (Below w.heap.size w w5) := HB_w4.out.trans (hb_w5.mono HB_w4.out.size); have HD_w5 := Lib.hid (HD_w4.out.below hb_w5); have HE_w5 := Lib.hid (HE_w4.out.below hb_w5); clear hb_w5
    rw [H6.out.2.1]
    go_wp2_with fail; ((with_reducible refine (implCommitCost_any A1 A2 c1 c2 xs on (L + x + 1) hI2 w5 HD_w5.out.reads.1 HE_w5.out.reads.1 hxl hol).mono ?_); rintro e w6 ⟨rfl, hb_w6⟩); have HB_w6 : Hid (Below w.heap.size w w6) := HB_w5.out.trans (hb_w6.mono HB_w5.out.size); clear hb_w6
    rw [H6.out.2.2]
    go_wp2_with fail
    go_ret
    exact ⟨rfl, HB_w6.out⟩
end Go.Proofs.YtcpopbkcphpdfaaDoor
