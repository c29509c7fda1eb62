/- The law FnNextCost: its walk. -/
import Derived.Test.YtcpopbkcphpdfaaDoorDrP
import Derived.Test.YtcpopbkcphpdfaaDoorLwP
import Derived.Test.YtcpopbkcphpdfaaDoorAlive
namespace Go.Proofs.YtcpopbkcphpdfaaDoor
open Go.RowKit Go.Deep
set_option linter.unusedSimpArgs false
set_option linter.unusedVariables false

set_option maxRecDepth 100000 in
set_option maxHeartbeats 8000000 in
theorem fnNextCost_any (A : Option Addr) (n c : Nat) (bs : List Int) (w : World) (hn : bs.length = n) (hb : ∀ x ∈ bs, U8 x) (hc : n ≤ c) (hcm : c ≤ maxLen) (hR : Reads 1 byteC w w.heap.size A bs) :
    Calls Tryd.prog 7 #[.slice A n c] w fun e w' => e = .returned (.bool true) ∧ Below w.heap.size w w' := by
  unfold maxLen at hcm
  subst hn
  have HR := Lib.hid hR; clear hR
  have HB := Lib.hid hb; clear hb
  have HB_w : Hid (Below w.heap.size w w) := Below.refl _ _
  have hbb : ∀ x : Bool, (x != x) = false := fun x => by simp
  have hnn : ∀ x : Int, (x != x) = false := fun x => by simp
  by_cases hl : ¬ bs.length ≤ 1048576
  · have hl' : (1048576 : Int) < bs.length := by omega
    go_enter Tryd.func7, Tryd.ntmps7
    go_wp2_with fail
    go_ret
    exact ⟨rfl, Below.refl _ _⟩
  have hl : bs.length ≤ 1048576 := by omega
  have hl' : ¬ (1048576 : Int) < bs.length := by omega
  go_enter Tryd.func7, Tryd.ntmps7
  go_wp2_with fail; ((with_reducible refine (drawNextCost_any A c bs w HR.out HB.out hl hc hcm).mono ?_); rintro e w1 ⟨A1, c1, xs, L, rfl, h7, hs, hL0, hL1, hd, hb_w1⟩); have HB_w1 : Hid (Below w.heap.size w w1) := HB_w.out.trans (hb_w1.mono HB_w.out.size); clear hb_w1
  have HD_w1 := Lib.hid hd; clear hd hs
  have hxl : xs.length ≤ 1048576 := by omega
  have hI : I64 L := by unfold I64; omega
  have hI1 : I64 (L + 1) := by unfold I64; omega
  go_wp2_with fail; ((with_reducible refine (implNextCost_any A1 c1 xs L hI w1 HD_w1.out.reads.1 hxl).mono ?_); rintro e w2 ⟨rfl, hb_w2⟩); have HB_w2 : Hid (Below w.heap.size w w2) := HB_w1.out.trans (hb_w2.mono HB_w1.out.size); have HD_w2 := Lib.hid (HD_w1.out.below hb_w2); clear hb_w2
  go_wp2_with fail; ((with_reducible refine (specNextCost_any A1 c1 xs L hI w2 HD_w2.out.reads.1 hxl).mono ?_); rintro e w3 ⟨rfl, hb_w3⟩); have HB_w3 : Hid (Below w.heap.size w w3) := HB_w2.out.trans (hb_w3.mono HB_w2.out.size); have HD_w3 := Lib.hid (HD_w2.out.below hb_w3); clear hb_w3
  have HLW := Lib.hid (next_law xs L)
  have HC := Lib.hid (fun ys => outCost_cases xs ys)
  have HD1 : Hid (∀ W : World, Reads 4 r4C W W.heap.size A1 xs → Calls Tryd.prog 32 #[.slice A1 xs.length c1, .int .i64 L] W (RetD W (dispO xs L))) := fun W h => implDispatch_any A1 c1 xs L hI W h hxl
  have HD2 : Hid (∀ W : World, Reads 4 r4C W W.heap.size A1 xs → Calls Tryd.prog 32 #[.slice A1 xs.length c1, .int .i64 (L + 1)] W (RetD W (dispO xs (L + 1)))) := fun W h => implDispatch_any A1 c1 xs (L + 1) hI1 W h hxl
  have HN2 : Hid (∀ W : World, Reads 4 r4C W W.heap.size A1 xs → Calls Tryd.prog 30 #[.slice A1 xs.length c1, .int .i64 (L + 1)] W fun e w' => e = .returned (.int .i64 (nextC xs (L + 1))) ∧ Below W.heap.size W w') := fun W h => implNextCost_any A1 c1 xs (L + 1) hI1 W h hxl
  rcases HLW.out with ⟨hx, hpq⟩ | ⟨h1, h99, ys, zs, e1, e2, e3, e4⟩
  · have HX := Lib.hid hx
    rw [hx]
    clear hx HLW
    go_wp2_with fail; ((with_reducible refine (HD1.out w3 HD_w3.out.reads.1).mono ?_); rintro e w4 ⟨v4, rfl, hr4, hb_w4⟩); have HB_w4 : Hid (Below w.heap.size w w4) := HB_w3.out.trans (hb_w4.mono HB_w3.out.size); have HD_w4 := Lib.hid (HD_w3.out.below hb_w4); clear hb_w4
    obtain ⟨A4, c4, rfl, _⟩ := hr4
    go_wp2_with fail; ((with_reducible refine (HD2.out w4 HD_w4.out.reads.1).mono ?_); rintro e w5 ⟨v5, rfl, hr5, hb_w5⟩); have HB_w5 : Hid (Below w.heap.size w w5) := HB_w4.out.trans (hb_w5.mono HB_w4.out.size); have HD_w5 := Lib.hid (HD_w4.out.below hb_w5); clear hb_w5
    obtain ⟨A5, c5, rfl, _⟩ := hr5
    generalize (dispO xs L).isSome = p at hpq ⊢
    generalize (dispO xs (L + 1)).isSome = q at hpq ⊢
    rcases hpq with rfl | rfl
    · go_wp2_with fail; ((with_reducible refine (alive_any w5).mono ?_); rintro e w6 ⟨rfl, hb_w6⟩); have HB_w6 : Hid (Below w.heap.size w w6) := HB_w5.out.trans (hb_w6.mono HB_w5.out.size); clear hb_w6
      go_wp2_with fail
      go_ret
      exact ⟨rfl, HB_w6.out⟩
    · cases p
      · go_wp2_with fail; ((with_reducible refine (alive_any w5).mono ?_); rintro e w6 ⟨rfl, hb_w6⟩); have HB_w6 : Hid (Below w.heap.size w w6) := HB_w5.out.trans (hb_w6.mono HB_w5.out.size); clear hb_w6
        go_wp2_with fail
        go_ret
        exact ⟨rfl, HB_w6.out⟩
      · go_wp2_with fail; ((with_reducible refine (alive_any w5).mono ?_); rintro e w6 ⟨rfl, hb_w6⟩); have HB_w6 : Hid (Below w.heap.size w w6) := HB_w5.out.trans (hb_w6.mono HB_w5.out.size); clear hb_w6
        go_wp2_with fail
        go_ret
        exact ⟨rfl, HB_w6.out⟩
  · rw [e1] at HD1
    rw [e2] at HD2
    generalize nextC xs L = x at h1 h99 e3 e4 ⊢
    generalize nextC xs (L + 1) = y at e4 HN2
    go_wp2_with fail; ((with_reducible refine (HD1.out w3 HD_w3.out.reads.1).mono ?_); rintro e w4 ⟨v4, rfl, hr4, hb_w4⟩); have HB_w4 : Hid (Below w.heap.size w w4) := HB_w3.out.trans (hb_w4.mono HB_w3.out.size); have HD_w4 := Lib.hid (HD_w3.out.below hb_w4); clear hb_w4
    have hr4 : Res 1 intC 3 w4 w3.heap.size v4 ys := hr4
    have HE_w4 := Lib.hid hr4
    obtain ⟨A4, c4, rfl, _⟩ := hr4
    go_wp2_with fail; ((with_reducible refine (HD2.out w4 HD_w4.out.reads.1).mono ?_); rintro e w5 ⟨v5, rfl, hr5, hb_w5⟩); have HB_w5 : Hid (Below w.heap.size w w5) := HB_w4.out.trans (hb_w5.mono HB_w4.out.size); have HD_w5 := Lib.hid (HD_w4.out.below hb_w5); have HE_w5 := Lib.hid (HE_w4.out.below hb_w5); clear hb_w5
    have hr5 : Res 1 intC 3 w5 w4.heap.size v5 zs := hr5
    have HF_w5 := Lib.hid hr5
    obtain ⟨A5, c5, rfl, _⟩ := hr5
    have HP := Lib.hid e4; clear e4
    go_wp2_with fail; ((with_reducible refine (HN2.out w5 HD_w5.out.reads.1).mono ?_); rintro e w6 ⟨rfl, hb_w6⟩); have HB_w6 : Hid (Below w.heap.size w w6) := HB_w5.out.trans (hb_w6.mono HB_w5.out.size); have HD_w6 := Lib.hid (HD_w5.out.below hb_w6); have HE_w6 := Lib.hid (HE_w5.out.below hb_w6); have HF_w6 := Lib.hid (HF_w5.out.below hb_w6); clear hb_w6
    have hl4 := (dispO_outs e1).1.2.1
    have hl5 := (dispO_outs e2).1.2.1
    have HL := Lib.hid (And.intro hl4 hl5); clear hl4 hl5
    go_wp2_with fail; ((with_reducible refine (implOutputCost_any A1 A5 c1 c5 xs zs w6 HD_w6.out.reads.1 HF_w6.out.reads.1 hxl (by rw [HL.out.2]; exact hxl)).mono ?_); rintro e w7 ⟨rfl, hb_w7⟩); have HB_w7 : Hid (Below w.heap.size w w7) := HB_w6.out.trans (hb_w7.mono HB_w6.out.size); have HD_w7 := Lib.hid (HD_w6.out.below hb_w7); have HE_w7 := Lib.hid (HE_w6.out.below hb_w7); clear hb_w7
    go_wp2_with fail; ((with_reducible refine (implOutputCost_any A1 A4 c1 c4 xs ys w7 HD_w7.out.reads.1 HE_w7.out.reads.1 hxl (by rw [HL.out.1]; exact hxl)).mono ?_); rintro e w8 ⟨rfl, hb_w8⟩); have HB_w8 : Hid (Below w.heap.size w w8) := HB_w7.out.trans (hb_w8.mono HB_w7.out.size); clear hb_w8
    have b1 : -1 ≤ outCost xs ys ∧ outCost xs ys ≤ 593406 := by have := HC.out ys; omega
    have b2 : -1 ≤ outCost xs zs ∧ outCost xs zs ≤ 593406 := by have := HC.out zs; omega
    clear e1 e2
    generalize outCost xs ys = o1 at *
    generalize outCost xs zs = o2 at *
    subst e3
    rcases HP.out with rfl | h4
    · go_wp2_with fail
      go_ret
      exact ⟨rfl, HB_w8.out⟩
    · go_wp2
      all_goals try (exfalso; omega; done)
      all_goals
        go_ret
        exact ⟨rfl, HB_w8.out⟩
end Go.Proofs.YtcpopbkcphpdfaaDoor
