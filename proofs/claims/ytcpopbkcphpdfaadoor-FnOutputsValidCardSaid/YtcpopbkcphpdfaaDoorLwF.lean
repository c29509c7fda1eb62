/- The law FnOutputsValid: its walk. -/
import Derived.Test.YtcpopbkcphpdfaaDoorDrP
import Derived.Test.YtcpopbkcphpdfaaDoorLwP
import Derived.Test.YtcpopbkcphpdfaaDoorAlive
import Derived.Deep.DeepCutAuto
namespace Go.Proofs.YtcpopbkcphpdfaaDoor
open Go.RowKit Go.Deep
set_option linter.unusedSimpArgs false
set_option linter.unusedVariables false

set_option maxRecDepth 100000 in
set_option maxHeartbeats 8000000 in
theorem fnOutputsValid_any (A : Option Addr) (n c : Nat) (bs : List Int) (w : World) (hn : bs.length = n) (hb : ∀ x ∈ bs, U8 x) (hc : n ≤ c) (hcm : c ≤ maxLen) (hR : Reads 1 byteC w w.heap.size A bs) :
    Calls Tryd.prog 4 #[.slice A n c] w fun e w' => e = .returned (.bool true) ∧ Below w.heap.size w w' := by
  unfold maxLen at hcm
  subst hn
  have HR := Lib.hid hR; clear hR
  have HB := Lib.hid hb; clear hb
  have HB_w : Hid (Below w.heap.size w w) := Below.refl _ _
  have hbb : ∀ x : Bool, (x != x) = false := fun x => by simp
  have hnn : ∀ x : Int, (x != x) = false := fun x => by simp
  by_cases hl : ¬ bs.length ≤ 1048576
  · have hl' : (1048576 : Int) < bs.length := by omega
    go_enter Tryd.func4, Tryd.ntmps4
    go_wp2_with fail
    go_ret
    exact ⟨rfl, Below.refl _ _⟩
  have hl : bs.length ≤ 1048576 := by omega
  have hl' : ¬ (1048576 : Int) < bs.length := by omega
  go_enter Tryd.func4, Tryd.ntmps4
  go_wp2_with fail; ((with_reducible refine (drawOutputsValid_any A c bs w HR.out HB.out hl hc hcm).mono ?_); rintro e w1 ⟨A1, A2, c1, c2, xs, ys, rfl, h7, hs, hy7, hyb, hd, hd2, hb_w1⟩); have HB_w1 : Hid (Below w.heap.size w w1) := HB_w.out.trans (hb_w1.mono HB_w.out.size); clear hb_w1
  have HD_w1 := Lib.hid hd; have HE_w1 := Lib.hid hd2; have HSM := Lib.hid hs; clear hd hd2 hs hyb
  have hxl : xs.length ≤ 1048576 := by omega
  have hyl : ys.length ≤ 1048576 := by omega
  go_wp2_with fail; ((with_reducible refine (implOutputsValid_any A1 A2 c1 c2 xs ys w1 HD_w1.out.reads.1 HE_w1.out.reads.1 hxl hyl).mono ?_); rintro e w2 ⟨rfl, hb_w2⟩); have HB_w2 : Hid (Below w.heap.size w w2) := HB_w1.out.trans (hb_w2.mono HB_w1.out.size); have HD_w2 := Lib.hid (HD_w1.out.below hb_w2); have HE_w2 := Lib.hid (HE_w1.out.below hb_w2); clear hb_w2
  go_wp2_with fail; ((with_reducible refine (specOutputsValid_any A1 A2 c1 c2 xs ys w2 HD_w2.out.reads.1 HE_w2.out.reads.1 hxl hyl).mono ?_); rintro e w3 ⟨rfl, hb_w3⟩); have HB_w3 : Hid (Below w.heap.size w w3) := HB_w2.out.trans (hb_w3.mono HB_w2.out.size); have HD_w3 := Lib.hid (HD_w2.out.below hb_w3); have HE_w3 := Lib.hid (HE_w2.out.below hb_w3); clear hb_w3
  by_cases ho : outsB xs ys = true
  · have hO := outsB_t.1 ho
    have HO := Lib.hid hO
    have hyx : ys.length = xs.length := hO.2.1
    have HYX := Lib.hid hyx
    rw [ho]
    clear ho hO hyx
    go_wp2_with fail
    go_loopw [6, 7] (fun t k wr => ∃ (zs : List Int) (vA : Option Addr) (vc : Nat), k = .int .i64 zs.length ∧ zs.length ≤ xs.length ∧ t = .slice vA zs.length vc ∧ Hid (zs = (leasts xs).take zs.length) ∧ Hid (Own 1 intC 3 wr w3.heap.size (.slice vA zs.length vc) zs) ∧ Hid (Below w3.heap.size w3 wr)) (fun _ k _ => xs.length - (intOf k).toNat)
    case atStart => exact ⟨[], _, _, rfl, Nat.zero_le _, rfl, rfl, Own.lit (k := 1) (c := intC) (B := w3.heap.size) w3 3 #[] 0 [] (Nat.le_refl _) rfl (by omega) rfl, Below.alloc (Below.refl _ _) (Nat.le_refl _) _⟩
    case round =>
      obtain ⟨zs, vA, vc, rfl, hi, rfl, HZ, HV, HW⟩ := hrel
      have hzw := HW.out.size
      have HB_wr : Hid (Below w.heap.size w wr) := HB_w3.out.trans (HW.out.mono HB_w3.out.size)
      have HD_wr := Lib.hid (HD_w3.out.below HW.out)
      have HE_wr := Lib.hid (HE_w3.out.below HW.out)
      by_cases hlt : zs.length < xs.length
      · have hiy : zs.length < ys.length := by rw [HYX.out]; exact hlt
        have HA_4 := Lib.hid (Own.lit (k := 1) (c := intC) (B := wr.heap.size) wr 3 #[] 0 [] (Nat.le_refl _) rfl (by omega) rfl); have HQ_4 := Lib.hid (Reads.more (Reads.below (HE_wr.out.reads.1) (Below.alloc (Below.refl wr.heap.size wr) (Nat.le_refl _) (.cells #[] 3)) (Nat.le_refl _)) (show wr.heap.size ≤ (wr.alloc (.cells #[] 3)).heap.size by simp)); go_upto_region 14 with (first | (at_builtin; refine wpList_app_g (k := 1) (c := intC) _ (by rfl) _ _ _ rfl 3 (.int .i64 0) 8 Tryd.underlying30 (by kernel_rfl) rfl (by decide) (by decide) intC_one _ _ _ rfl HA_4.out _ _ _ _ rfl HQ_4.out ?hm ?hlen ?hB ?_; (case hm => (first | rfl | (simp; done) | omega)); (case hlen => (simp only [List.length_nil]; omega)); (case hB => simp); intro v_4 w_4 hown_4 hg_4 hat_4; have HW_4 : Hid (Below wr.heap.size wr w_4) := (Below.alloc (Below.refl _ _) (Nat.le_refl _) _).grown hg_4 (by simp) (fun q hq => by injection hq with hq; subst hq; exact Nat.le_refl _); simp only [List.nil_append] at hown_4; have HO_4 := Lib.hid hown_4; obtain ⟨A_4, c_4, hv_4⟩ := hown_4.slice; subst hv_4; have hz_4 := HW_4.out.size; clear hown_4 hg_4 hat_4 HA_4 HQ_4))
        obtain ⟨gx, rfl, hgx, hgz, kx, kf⟩ := HO_4.out.at1 hiy
        have kfi := kf zs.length
        obtain ⟨b, off, rfl, hBb, hbz, k0w, k1w, _, _⟩ := HD_wr.out.at4 hlt
        have k1 := (HW_4.out.cell (p := ⟨b, off + zs.length * 4 + 1, none⟩) hbz).trans k1w
        have hsm := HSM.out xs[zs.length] (List.getElem_mem hlt)
        have hov := outs_over HO.out hlt
        rw [uAt_get hlt] at hov
        have hsn := leasts_snoc hlt
        rw [uAt_get hlt, ← HZ.out] at hsn
        have HOV := Lib.hid hov; have HSN := Lib.hid hsn; clear hov hsn
        generalize xs[zs.length] = x at k0w k1w k1 hsm HOV HSN
        unfold SmU at hsm
        obtain ⟨s1, s2, s3, s4, _⟩ := hsm
        have HX := Lib.hid (HO_4.out.set1 hiy (x.b + 1))
        have HWX : Hid (Below wr.heap.size wr (w_4.setCell ⟨gx, zs.length, none⟩ (.int .i64 (x.b + 1)))) := HW_4.out.setCell (p := ⟨gx, zs.length, none⟩) hgx _
        have hcall := implOutputsValid_any (some ⟨b, off, none⟩) (some ⟨gx, 0, none⟩) c1 c_4 xs (ys.set zs.length (x.b + 1)) (w_4.setCell ⟨gx, zs.length, none⟩ (.int .i64 (x.b + 1))) (HD_wr.out.below HWX.out).reads.1 (HX.out.reads rfl).1 hxl (by rw [List.length_set]; exact hyl)
        rw [List.length_set, HOV.out] at hcall
        have HCL := Lib.hid hcall; clear hcall
        have hix : (zs.length : Int) < (xs.length : Int) := by omega
        have hiy' : (zs.length : Int) < (ys.length : Int) := by omega
        have hi0 : (0 : Int) ≤ (zs.length : Int) := by omega
        go_wp2_with fail
        with_reducible refine HCL.out.mono ?_
        rintro e w5 ⟨rfl, hb5⟩
        have HW5 : Hid (Below wr.heap.size wr w5) := HWX.out.trans (hb5.mono HWX.out.size)
        clear hb5 kx kf kfi k1
        have hz5 := HW5.out.size
        have HV5 := Lib.hid (HV.out.keep HW5.out)
        have k0 := (HW5.out.cell (p := ⟨b, off + zs.length * 4, none⟩) hbz).trans k0w
        have hzz5 : w3.heap.size ≤ w5.heap.size := by omega
        clear k0w k1w
        have HL_6 := Lib.hid (Own.lit (k := 1) (c := intC) (B := w3.heap.size) w5 3 #[.int .i64 x.a] 1 [x.a] (by first | exact Nat.le_refl _ | omega) rfl (by omega) rfl); have HQ_6 := Lib.hid (HL_6.out.reads rfl).1; have HV_6 := Lib.hid (Own.alloc (HV5.out) (.cells #[.int .i64 x.a] 3)); have HK_6 := Lib.hid (Own.blk (HV5.out)); go_wp2_with (first | (at_builtin; refine wpList_app_g (k := 1) (c := intC) _ (by rfl) _ _ _ rfl 3 (.int .i64 0) 8 Tryd.underlying30 (by kernel_rfl) rfl (by decide) (by decide) intC_one _ _ _ rfl HV_6.out _ _ _ _ rfl HQ_6.out ?hm ?hlen ?hB ?_; (case hm => (first | rfl | (simp; done) | omega)); (case hlen => (simp only [List.length_cons, List.length_nil]; omega)); (case hB => ((try simp only [World.size_alloc]); omega)); intro v_6 w_6 hown_6 hg_6 hat_6; have HW_6 : Hid (Below (w3.heap.size) (w5) w_6) := (Below.alloc (Below.refl _ _) (by first | exact Nat.le_refl _ | omega) _).grown hg_6 (by (try simp only [World.size_alloc]); omega) (fun q hq => (HK_6.out q hq).1); have HG_6 := Lib.hid hg_6; have HO_6 := Lib.hid hown_6; obtain ⟨A_6, c_6, hv_6⟩ := hown_6.slice; simp only [List.length_append, List.length_cons, List.length_nil, Nat.zero_add] at hv_6; subst hv_6; have hz_6 := HG_6.out.size; (try simp only [World.size_alloc] at hz_6); clear hown_6 hg_6 hat_6 HL_6 HQ_6 HV_6))
        refine ⟨⟨zs ++ [x.a], A_6, c_6, by rw [List.length_append]; go_num, by simp; omega, by simp, ?_, ?_, (HW.out.trans (HW5.out.mono hzw)).trans HW_6.out⟩, by simp [intOf]; omega⟩
        · show zs ++ [x.a] = _
          rw [HSN.out]; simp
        · have := HO_6.out
          unfold Hid
          rw [List.length_append]; exact this
      · have hzl : zs.length = xs.length := by omega
        have hzz : zs = leasts xs := by have := HZ.out; rw [hzl, List.take_of_length_le (by simp)] at this; exact this
        have hcall := implOutputsValid_any A1 vA c1 vc xs zs wr HD_wr.out.reads.1 (HV.out.reads rfl).1 hxl (by omega)
        rw [show outsB xs zs = true from by rw [hzz]; exact outs_leasts HO.out.1] at hcall
        have HCL := Lib.hid hcall; clear hcall hzz hzl
        go_wp2_with fail
        with_reducible refine HCL.out.mono ?_
        rintro e w5 ⟨rfl, hb5⟩
        have HB5 := Lib.hid hb5; clear hb5
        go_wp2_with fail
        go_ret
        exact ⟨rfl, HB_wr.out.trans (HB5.out.mono HB_wr.out.size)⟩
  · have ho' : outsB xs ys = false := by simpa using ho
    rw [ho']
    clear ho ho'
    go_wp2_with fail; ((with_reducible refine (alive_any w3).mono ?_); rintro e w4 ⟨rfl, hb_w4⟩); have HB_w4 : Hid (Below w.heap.size w w4) := HB_w3.out.trans (hb_w4.mono HB_w3.out.size); clear hb_w4
    go_wp2_with fail
    go_ret
    exact ⟨rfl, HB_w4.out⟩
end Go.Proofs.YtcpopbkcphpdfaaDoor
