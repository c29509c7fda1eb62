/- The law FnOutputCost: its walk. -/
import Derived.Test.YtcpopbkcphpdfaaDoorDrP
import Derived.Test.YtcpopbkcphpdfaaDoorLwP
import Derived.Test.YtcpopbkcphpdfaaDoorAlive
import Derived.Deep.DeepCutAuto
import Derived.Deep.RegionHeld3
namespace Go.Proofs.YtcpopbkcphpdfaaDoor
open Go.RowKit Go.Deep
set_option linter.unusedSimpArgs false
set_option linter.unusedVariables false

set_option maxRecDepth 100000 in
set_option maxHeartbeats 8000000 in
theorem fnOutputCost_any (A : Option Addr) (n c : Nat) (bs : List Int) (w : World) (hn : bs.length = n) (hb : ∀ x ∈ bs, U8 x) (hc : n ≤ c) (hcm : c ≤ maxLen) (hR : Reads 1 byteC w w.heap.size A bs) :
    Calls Tryd.prog 5 #[.slice A n c] w fun e w' => e = .returned (.bool true) ∧ Below w.heap.size w w' := by
  unfold maxLen at hcm
  subst hn
  have HR := Lib.hid hR; clear hR
  have HB := Lib.hid hb; clear hb
  have HB_w : Hid (Below w.heap.size w w) := Below.refl _ _
  have hbb : ∀ x : Bool, (x != x) = false := fun x => by simp
  have hnn : ∀ x : Int, (x != x) = false := fun x => by simp
  by_cases hl : ¬ bs.length ≤ 1048576
  · have hl' : (1048576 : Int) < bs.length := by omega
    go_enter Tryd.func5, Tryd.ntmps5
    go_wp2_with fail
    go_ret
    exact ⟨rfl, Below.refl _ _⟩
  have hl : bs.length ≤ 1048576 := by omega
  have hl' : ¬ (1048576 : Int) < bs.length := by omega
  go_enter Tryd.func5, Tryd.ntmps5
  go_wp2_with fail; ((with_reducible refine (drawOutputCost_any A c bs w HR.out HB.out hl hc hcm).mono ?_); rintro e w1 ⟨A1, A2, c1, c2, xs, ys, rfl, h7, hs, hy7, hyb, hd, hd2, hb_w1⟩); have HB_w1 : Hid (Below w.heap.size w w1) := HB_w.out.trans (hb_w1.mono HB_w.out.size); clear hb_w1
  have HD_w1 := Lib.hid hd; have HE_w1 := Lib.hid hd2; have HSM := Lib.hid hs; have HYB := Lib.hid hyb; clear hd hd2 hs hyb
  have hxl : xs.length ≤ 1048576 := by omega
  have hyl : ys.length ≤ 1048576 := by omega
  go_wp2_with fail; ((with_reducible refine (implOutputCost_any A1 A2 c1 c2 xs ys w1 HD_w1.out.reads.1 HE_w1.out.reads.1 hxl hyl).mono ?_); rintro e w2 ⟨rfl, hb_w2⟩); have HB_w2 : Hid (Below w.heap.size w w2) := HB_w1.out.trans (hb_w2.mono HB_w1.out.size); have HD_w2 := Lib.hid (HD_w1.out.below hb_w2); have HE_w2 := Lib.hid (HE_w1.out.below hb_w2); clear hb_w2
  go_wp2_with fail; ((with_reducible refine (specOutputCost_any A1 A2 c1 c2 xs ys w2 HD_w2.out.reads.1 HE_w2.out.reads.1 hxl hyl).mono ?_); rintro e w3 ⟨rfl, hb_w3⟩); have HB_w3 : Hid (Below w.heap.size w w3) := HB_w2.out.trans (hb_w3.mono HB_w2.out.size); have HD_w3 := Lib.hid (HD_w2.out.below hb_w3); have HE_w3 := Lib.hid (HE_w2.out.below hb_w3); clear hb_w3
  rcases outCost_cases xs ys with ⟨ho, hx⟩ | ⟨hO, ho, hx0, hx1⟩
  · rw [hx]
    clear hx
    have HOF := Lib.hid ho; clear ho
    go_wp2_with fail; ((with_reducible refine (implOutputsValid_any A1 A2 c1 c2 xs ys w3 HD_w3.out.reads.1 HE_w3.out.reads.1 hxl hyl).mono ?_); rintro e w4 ⟨rfl, hb_w4⟩); have HB_w4 : Hid (Below w.heap.size w w4) := HB_w3.out.trans (hb_w4.mono HB_w3.out.size); clear hb_w4
    rw [HOF.out]
    go_wp2_with fail; ((with_reducible refine (alive_any w4).mono ?_); rintro e w5 ⟨rfl, hb_w5⟩); have HB_w5 : Hid (Below w.heap.size w w5) := HB_w4.out.trans (hb_w5.mono HB_w4.out.size); clear hb_w5
    go_wp2_with fail
    go_ret
    exact ⟨rfl, HB_w5.out⟩
  · have HO := Lib.hid hO
    have hyx : ys.length = xs.length := hO.2.1
    have HYX := Lib.hid hyx
    generalize hX : outCost xs ys = X at hx0 hx1 ⊢
    have HX := Lib.hid hX
    have hX0 : ¬ X < 0 := by omega
    clear ho hO hyx hX
    go_wp2_with fail
    go_loopw [6] (fun k wr => ∃ (i : Nat), k = .int .i64 i ∧ i ≤ ys.length ∧ Hid (Below w.heap.size w wr) ∧ Hid (DrS 4 r4C wr w.heap.size (.slice A1 xs.length c1) xs) ∧ Hid (DrS 1 intC wr w.heap.size (.slice A2 ys.length c2) ys)) (fun k _ => ys.length - (intOf k).toNat)
    case atStart => exact ⟨0, rfl, Nat.zero_le _, HB_w3, HD_w3, HE_w3⟩
    case round =>
      obtain ⟨i, rfl, hi, HB_wr, HD_wr, HE_wr⟩ := hrel
      by_cases hlt : i < ys.length
      · have hix : i < xs.length := by rw [← HYX.out]; exact hlt
        have HA_4 := Lib.hid (Own.lit (k := 1) (c := intC) (B := wr.heap.size) wr 3 #[] 0 [] (Nat.le_refl _) rfl (by omega) rfl); have HQ_4 := Lib.hid (Reads.more (Reads.below (HE_wr.out.reads.1) (Below.alloc (Below.refl wr.heap.size wr) (Nat.le_refl _) (.cells #[] 3)) (Nat.le_refl _)) (show wr.heap.size ≤ (wr.alloc (.cells #[] 3)).heap.size by simp)); go_upto_region 13 with (first | (at_builtin; refine wpList_app_g (k := 1) (c := intC) _ (by rfl) _ _ _ rfl 3 (.int .i64 0) 8 Tryd.underlying30 (by kernel_rfl) rfl (by decide) (by decide) intC_one _ _ _ rfl HA_4.out _ _ _ _ rfl HQ_4.out ?hm ?hlen ?hB ?_; (case hm => (first | rfl | (simp; done) | omega)); (case hlen => (simp only [List.length_nil]; omega)); (case hB => simp); intro v_4 w_4 hown_4 hg_4 hat_4; have HW_4 : Hid (Below wr.heap.size wr w_4) := (Below.alloc (Below.refl _ _) (Nat.le_refl _) _).grown hg_4 (by simp) (fun q hq => by injection hq with hq; subst hq; exact Nat.le_refl _); simp only [List.nil_append] at hown_4; have HO_4 := Lib.hid hown_4; obtain ⟨A_4, c_4, hv_4⟩ := hown_4.slice; subst hv_4; have hz_4 := HW_4.out.size; clear hown_4 hg_4 hat_4 HA_4 HQ_4))
        obtain ⟨gx, rfl, hgx, hgz, kx, kf⟩ := HO_4.out.at1 hlt
        have kfi := kf i
        have kx' : w_4.cell? ⟨gx, i, none⟩ = some (.int .i64 ys[i]) := kx
        obtain ⟨b, off, rfl, hBb, hbz, _, k1w, k2w, _⟩ := HD_wr.out.at4 hix
        obtain ⟨b2, off2, rfl, hBb2, hbz2, k4w⟩ := HE_wr.out.at1 hlt
        have k4w' : wr.cell? ⟨b2, off2 + i, none⟩ = some (.int .i64 ys[i]) := k4w
        have hsm := HSM.out xs[i] (List.getElem_mem hix)
        have hyi := HYB.out ys[i] (List.getElem_mem hlt)
        have hst : ys[i] < xs[i].b → outCost xs (ys.set i (ys[i] + 1)) = X + xs[i].c := fun h => by
          have := cost_step HO.out hix (by rw [gI_get hlt, uAt_get hix]; exact h)
          rw [gI_get hlt, uAt_get hix, HX.out] at this; exact this
        have HX4 := Lib.hid (HO_4.out.set1 hlt (ys[i] + 1))
        have HST := Lib.hid hst; clear hst k4w kx
        have HWX : Hid (Below wr.heap.size wr (w_4.setCell ⟨gx, i, none⟩ (.int .i64 (ys[i] + 1)))) := HW_4.out.setCell (p := ⟨gx, i, none⟩) hgx _
        have hcall := implOutputCost_any (some ⟨b, off, none⟩) (some ⟨gx, 0, none⟩) c1 c_4 xs (ys.set i (ys[i] + 1)) (w_4.setCell ⟨gx, i, none⟩ (.int .i64 (ys[i] + 1))).drew (HD_wr.out.below HWX.out).reads.1 (HX4.out.reads rfl).1 hxl (by rw [List.length_set]; exact hyl)
        rw [List.length_set] at hcall
        have HCL := Lib.hid hcall; clear hcall HX4
        generalize ys[i] = y at kx' k4w' hyi HST HWX HCL
        generalize xs[i] = x at k1w k2w hsm HST
        unfold SmU at hsm
        obtain ⟨s1, s2, s3, s4, s5, s6, _⟩ := hsm
        obtain ⟨hy0, hy1⟩ := hyi
        have hii : (i : Int) < (xs.length : Int) := by omega
        have hiy' : (i : Int) < (ys.length : Int) := by omega
        have hi0 : (0 : Int) ≤ (i : Int) := by omega
        have hw1 : IntKind.i64.wrap (X + x.c) = X + x.c := IntWalk.i64_in _ (by omega)
        go_upto_region 14 with fail
        have k1 : (w_4.setCell ⟨gx, i, none⟩ (.int .i64 (y + 1))).cell? ⟨b, off + i * 4 + 1, none⟩ = some (.int .i64 x.b) := (HWX.out.cell (p := ⟨b, off + i * 4 + 1, none⟩) hbz).trans k1w
        have k2 : (w_4.setCell ⟨gx, i, none⟩ (.int .i64 (y + 1))).cell? ⟨b, off + i * 4 + 2, none⟩ = some (.int .i64 x.c) := (HWX.out.cell (p := ⟨b, off + i * 4 + 2, none⟩) hbz).trans k2w
        have k4 : (w_4.setCell ⟨gx, i, none⟩ (.int .i64 (y + 1))).cell? ⟨b2, off2 + i, none⟩ = some (.int .i64 y) := (HWX.out.cell (p := ⟨b2, off2 + i, none⟩) hbz2).trans k4w'
        have zb : b < (w_4.setCell ⟨gx, i, none⟩ (.int .i64 (y + 1))).heap.size := Nat.lt_of_lt_of_le hbz HWX.out.size
        have zb2 : b2 < (w_4.setCell ⟨gx, i, none⟩ (.int .i64 (y + 1))).heap.size := Nat.lt_of_lt_of_le hbz2 HWX.out.size
        clear kx' kf kfi k1w k2w k4w'
        generalize hW : w_4.setCell ⟨gx, i, none⟩ (.int .i64 (y + 1)) = W at k1 k2 k4 zb zb2 HWX HCL ⊢
        clear hW
        by_cases hlb : y < x.b
        · have hst := HST.out hlb
          generalize outCost xs (ys.set i (y + 1)) = Z at hst HCL
          subst hst
          have hne : (X + x.c != X + x.c) = false := by simp
          go_region_held3 (fun w' => w'.cell? ⟨b, off + i * 4 + 1, none⟩ = some (.int .i64 x.b) ∧ w'.cell? ⟨b, off + i * 4 + 2, none⟩ = some (.int .i64 x.c) ∧ w'.cell? ⟨b2, off2 + i, none⟩ = some (.int .i64 y)) (simp [go_sem, World.cell?_alloc_past, *])
            (first | (go_at_call 23; refine HCL.out.mono ?_; rintro e w5 ⟨rfl, hb5⟩; have cB := keepB hb5 (g := b) (by go_size); have cB2 := keepB hb5 (g := b2) (by go_size); have HW5 : Hid (Below wr.heap.size wr w5) := HWX.out.trans ((undrew hb5).mono HWX.out.size); clear hb5))
          all_goals
            go_wp2_with fail
            refine ⟨⟨i + 1, by go_num, by omega, HB_wr.out.trans (HW5.out.mono HB_wr.out.size), HD_wr.out.below HW5.out, HE_wr.out.below HW5.out⟩, by simp [intOf]; omega⟩
        · have hlb2 : decide (y < x.b) = false := by simp; omega
          have hlb3 : x.b ≤ y := by omega
          go_wp2_with fail
          go_quiet (fail)
          go_wp2_with fail
          refine ⟨⟨i + 1, by go_num, by omega, HB_wr.out.trans ((below_drewN' HWX.out _).mono HB_wr.out.size), HD_wr.out.below (below_drewN' HWX.out _), HE_wr.out.below (below_drewN' HWX.out _)⟩, by simp [intOf]; omega⟩
      · go_wp2_with fail
        go_ret
        exact ⟨rfl, HB_wr.out⟩
end Go.Proofs.YtcpopbkcphpdfaaDoor
