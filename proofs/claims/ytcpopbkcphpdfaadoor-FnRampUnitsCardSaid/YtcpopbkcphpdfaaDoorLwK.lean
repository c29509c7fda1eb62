/- The law FnRampUnits: its walk. -/
import Derived.Test.YtcpopbkcphpdfaaDoorDrN
import Derived.Test.YtcpopbkcphpdfaaDoorLwR
import Derived.Test.YtcpopbkcphpdfaaDoorAlive
namespace Go.Proofs.YtcpopbkcphpdfaaDoor
open Go.RowKit Go.Deep
set_option linter.unusedSimpArgs false
set_option linter.unusedVariables false

theorem sameUnits_any (A B : Option Addr) (c d : Nat) (xs : List R4) (w : World) (hA : Reads 4 r4C w w.heap.size A xs) (hB : Reads 4 r4C w w.heap.size B xs) (hl : xs.length ≤ 1048576) :
    Calls Tryd.prog 27 #[.slice A xs.length c, .slice B xs.length d] w fun e w' => e = .returned (.bool true) ∧ Below w.heap.size w w' := by
  have HA := Lib.hid hA; clear hA
  have HB := Lib.hid hB; clear hB
  generalize hn : xs.length = n at hl ⊢
  have HN := Lib.hid hn; clear hn
  have hne : ((n : Int) != (n : Int)) = false := by simp
  go_enter Tryd.func27, Tryd.ntmps27
  go_wp2_with fail
  go_loopw [5] (fun t wr => ∃ i : Nat, t = .int .i64 i ∧ i ≤ n ∧ Hid (∃ m, wr = w.drewN m)) (fun t _ => n - (intOf t).toNat)
  case atStart => exact ⟨0, rfl, Nat.zero_le _, ⟨0, rfl⟩⟩
  case round =>
    obtain ⟨i, rfl, hi, HW⟩ := hrel
    obtain ⟨m, rfl⟩ := HW.out
    clear HW
    by_cases hlt : i < n
    · have hx : i < xs.length := by rw [HN.out]; exact hlt
      obtain ⟨b, off, rfl, _, k0, k1, k2, k3⟩ := HA.out.at4 hx
      obtain ⟨b', off', rfl, _, j0, j1, j2, j3⟩ := HB.out.at4 hx
      generalize xs[i] = x at k0 k1 k2 k3 j0 j1 j2 j3
      have h1 : ∀ z : Int, (z == z) = true := fun z => by simp
      have hi1 : (i : Int) < (n : Int) := by omega
      have hi0 : (0 : Int) ≤ (i : Int) := by omega
      go_wp2_with fail
      go_quiet (fail)
      go_wp2_with fail
      go_roundw
      case rel => exact ⟨i + 1, by go_num, by omega, ⟨_, rfl⟩⟩
      case measure => simp [intOf]; omega
    · go_wp2
      go_ret
      exact ⟨rfl, below_drewN' (Below.refl _ _) _⟩

set_option maxRecDepth 100000 in
set_option maxHeartbeats 8000000 in
theorem fnRampUnits_any (A : Option Addr) (n c : Nat) (bs : List Int) (w : World) (hn : bs.length = n) (hb : ∀ x ∈ bs, U8 x) (hc : n ≤ c) (hcm : c ≤ maxLen) (hR : Reads 1 byteC w w.heap.size A bs) :
    Calls Tryd.prog 6 #[.slice A n c] w fun e w' => e = .returned (.bool true) ∧ Below w.heap.size w w' := by
  unfold maxLen at hcm
  subst hn
  have HR := Lib.hid hR; clear hR
  have HB := Lib.hid hb; clear hb
  have HB_w : Hid (Below w.heap.size w w) := Below.refl _ _
  have hbb : ∀ x : Bool, (x != x) = false := fun x => by simp
  have hnn : ∀ x : Int, (x != x) = false := fun x => by simp
  by_cases hl : ¬ bs.length ≤ 1048576
  · have hl' : (1048576 : Int) < bs.length := by omega
    go_enter Tryd.func6, Tryd.ntmps6
    go_wp2_with fail
    go_ret
    exact ⟨rfl, Below.refl _ _⟩
  have hl : bs.length ≤ 1048576 := by omega
  have hl' : ¬ (1048576 : Int) < bs.length := by omega
  go_enter Tryd.func6, Tryd.ntmps6
  go_wp2_with fail; ((with_reducible refine (drawRampUnits_any A c bs w HR.out HB.out hl hc hcm).mono ?_); rintro e w1 ⟨A1, A2, A3, c1, c2, c3, us, rs, ys, rfl, hu1, hu7, hus, hrl, hrs, hy7, hys, hd1, hd2, hd3, hb_w1⟩); have HB_w1 : Hid (Below w.heap.size w w1) := HB_w.out.trans (hb_w1.mono HB_w.out.size); clear hb_w1
  have HD_w1 := Lib.hid hd1; have HE_w1 := Lib.hid hd2; have HF_w1 := Lib.hid hd3; have HRL := Lib.hid hrl; clear hd1 hd2 hd3 hus hrl hrs hys
  have hul : us.length ≤ 1048576 := by omega
  have hrl1 : rs.length ≤ 1048576 := by rw [HRL.out]; exact hul
  have hyl : ys.length ≤ 1048576 := by omega
  go_wp2_with fail; ((with_reducible refine (implRampUnits_any A1 A2 A3 c1 c2 c3 us rs ys w1 HD_w1.out.reads.1 HE_w1.out.reads.1 HF_w1.out.reads.1 hul hrl1 hyl).mono ?_); rintro e w2 ⟨v2, rfl, hr2, hb_w2⟩); have HB_w2 : Hid (Below w.heap.size w w2) := HB_w1.out.trans (hb_w2.mono HB_w1.out.size); have HD_w2 := Lib.hid (HD_w1.out.below hb_w2); have HE_w2 := Lib.hid (HE_w1.out.below hb_w2); have HF_w2 := Lib.hid (HF_w1.out.below hb_w2); clear hb_w2
  have HX_w2 := Lib.hid hr2
  obtain ⟨A4, c4, rfl, _⟩ := hr2
  go_wp2_with fail; ((with_reducible refine (specRampUnits_any A1 A2 A3 c1 c2 c3 us rs ys w2 HD_w2.out.reads.1 HE_w2.out.reads.1 HF_w2.out.reads.1 hul hrl1 hyl).mono ?_); rintro e w3 ⟨v3, rfl, hr3, hb_w3⟩); have HB_w3 : Hid (Below w.heap.size w w3) := HB_w2.out.trans (hb_w3.mono HB_w2.out.size); have HD_w3 := Lib.hid (HD_w2.out.below hb_w3); have HF_w3 := Lib.hid (HF_w2.out.below hb_w3); have HX_w3 := Lib.hid (HX_w2.out.below hb_w3); clear hb_w3
  have HZ_w3 := Lib.hid hr3
  obtain ⟨A5, c5, rfl, _⟩ := hr3
  have hxl := rampOut_le (xs := us) (rs := rs) (ys := ys)
  have HSA : Hid (∀ W, Reads 4 r4C W W.heap.size A4 (rampOut us rs ys) → Reads 4 r4C W W.heap.size A5 (rampOut us rs ys) → Calls Tryd.prog 27 #[.slice A4 (rampOut us rs ys).length c4, .slice A5 (rampOut us rs ys).length c5] W fun e w' => e = .returned (.bool true) ∧ Below W.heap.size W w') := fun W h1 h2 => sameUnits_any A4 A5 c4 c5 _ W h1 h2 (by omega)
  by_cases hp : RampP us rs ys
  · have e := rampOut_t hp
    rw [e] at HX_w3 HZ_w3 HSA ⊢
    have hml := hp.len
    obtain ⟨hp0, hz⟩ := ramp_zero hp
    have e0 := rampOut_t hp0
    have hml0 := hp0.len
    have hyu : ys.length = us.length := hp.1.2.1
    have HYU := Lib.hid hyu
    have HUV := Lib.hid (unisV_t.2 hp.unis)
    have HOV := Lib.hid (outsB_t.2 hp.outs)
    generalize rampL us rs ys = ms at HX_w3 HZ_w3 HSA hml HUV HOV ⊢
    have HML := Lib.hid hml
    have HNL := Lib.hid hml0
    have HZ0 := Lib.hid hz
    clear e hp hyu hml hml0 hz
    have HMK := fun W => run_mk (P := Tryd.prog) 30 3 (.int .i64 0) 1 8 us.length Tryd.underlying30 (by kernel_rfl) (by omega) (by omega) W
    go_wp2_with fail; ((with_reducible refine (HSA.out w3 HX_w3.out.reads.1 HZ_w3.out.reads.1).mono ?_); rintro e w4 ⟨rfl, hb_w4⟩); have HB_w4 : Hid (Below w.heap.size w w4) := HB_w3.out.trans (hb_w4.mono HB_w3.out.size); have HD_w4 := Lib.hid (HD_w3.out.below hb_w4); have HF_w4 := Lib.hid (HF_w3.out.below hb_w4); have HX_w4 := Lib.hid (HX_w3.out.below hb_w4); clear hb_w4
    have hm0 : ((ms.length : Int) == 0) = false := beq_eq_false_iff_ne.2 (by rw [HML.out]; omega)
    have hm0' : (ms.length == 0) = false := beq_eq_false_iff_ne.2 (by rw [HML.out]; omega)
    have HRow := Lib.hid (World.rowIs_made w4 (.int .i64 0) us.length 3)
    simp only [Nat.mul_one] at HMK
    have HBA : Hid (Below w4.heap.size w4 (w4.alloc (.cells (madeCells (Value.int .i64 0).cells us.length) 3))) := Below.alloc (Below.refl _ _) (Nat.le_refl _) _
    have HZR : Hid (Reads 1 intC (w4.alloc (.cells (madeCells (Value.int .i64 0).cells us.length) 3)) (w4.alloc (.cells (madeCells (Value.int .i64 0).cells us.length) 3)).heap.size (some ⟨w4.heap.size, 0, none⟩) (List.replicate us.length 0)) := by
      refine .inr ⟨w4.heap.size, 0, rfl, by simp, fun i x hx j hj => ?_⟩
      have hxx := (List.mem_replicate.1 (List.mem_of_getElem? hx)).2
      have hi : i < us.length := by have := (List.getElem?_eq_some_iff.1 hx).1; simpa using this
      subst hxx
      obtain rfl : j = 0 := by omega
      rw [Nat.mul_one, Nat.zero_add, Nat.add_zero]
      exact HRow.out.cell hi
    generalize hmc : madeCells (Value.int .i64 0).cells us.length = mc at HMK HBA HZR
    clear hmc HRow
    have HCU := implRampUnits_any A1 (some ⟨w4.heap.size, 0, none⟩) A3 c1 us.length c3 us (List.replicate us.length 0) ys (w4.alloc (.cells mc 3)) ((HD_w4.out.below HBA.out).reads.1) HZR.out ((HF_w4.out.below HBA.out).reads.1) hul (by simp; omega) hyl
    rw [e0, List.length_replicate] at HCU
    have HCU' := Lib.hid HCU
    clear HCU e0 hp0
    generalize rampL us (List.replicate us.length 0) ys = ns at HZ0 HNL HCU'
    go_wp2_with fail
    with_reducible refine HCU'.out.mono ?_
    rintro e w5 ⟨v5, rfl, hr5, hb5⟩
    have HN_w5 := Lib.hid hr5
    have HBx : Hid (Below w4.heap.size w4 w5) := HBA.out.trans (hb5.mono HBA.out.size)
    have HB_w5 : Hid (Below w.heap.size w w5) := HB_w4.out.trans (HBx.out.mono HB_w4.out.size)
    have HF_w5 := Lib.hid (HF_w4.out.below HBx.out)
    have HX_w5 := Lib.hid (HX_w4.out.below HBx.out)
    obtain ⟨A6, c6, rfl, _⟩ := hr5
    clear hb5 HMK
    go_wp2_with fail
    go_loopw [8] (fun k wr => ∃ (i : Nat), k = .int .i64 i ∧ i ≤ ns.length ∧ Hid (∃ m, wr = w5.drewN m)) (fun k _ => ns.length - (intOf k).toNat)
    case atStart => exact ⟨0, rfl, Nat.zero_le _, ⟨0, rfl⟩⟩
    case round =>
      obtain ⟨i, rfl, hi, HW⟩ := hrel
      obtain ⟨m, rfl⟩ := HW.out
      clear HW
      by_cases hlt : i < ns.length
      · have hiu : i < us.length := by rw [← HNL.out]; exact hlt
        have hiy : i < ys.length := by rw [HYU.out]; exact hiu
        obtain ⟨b1, o1, rfl, _, k1, k2, _, _⟩ := HN_w5.out.reads.1.at4 hlt
        obtain ⟨b2, o2, rfl, _, k3⟩ := HF_w5.out.reads.1.at1 hiy
        have k3' : w5.cell? ⟨b2, o2 + i, none⟩ = some (.int .i64 ys[i]) := k3
        have hz := HZ0.out i hiu
        rw [uAt_get hlt, gI_get hiy] at hz
        rw [hz.1] at k1
        rw [hz.2] at k2
        clear k3 hz
        generalize ys[i] = y at k1 k2 k3'
        have hi1 : (i : Int) < (ns.length : Int) := by omega
        have hi2 : (i : Int) < (ys.length : Int) := by omega
        have hi0 : (0 : Int) ≤ (i : Int) := by omega
        have hyy : (y != y) = false := by simp
        go_wp2_with fail
        go_quiet (fail)
        go_wp2_with fail
        exact ⟨⟨i + 1, by go_num, by omega, ⟨_, rfl⟩⟩, by simp [intOf]; omega⟩
      · have HB_wm : Hid (Below w.heap.size w (w5.drewN m)) := below_drewN' HB_w5.out m
        have HF_wm : Hid (DrS 1 intC (w5.drewN m) w.heap.size (.slice A3 ys.length c3) ys) := HF_w5
        have HX_wm : Hid (Res 4 r4C 27 (w5.drewN m) w1.heap.size (.slice A4 ms.length c4) ms) := HX_w5
        generalize hwm : w5.drewN m = wm at HB_wm HF_wm HX_wm ⊢
        clear hwm
        have hml2 : ms.length ≤ 1048576 := by rw [HML.out]; exact hul
        have hnq : ((ns.length : Int) == (us.length : Int)) = true := by rw [HNL.out]; simp
        have hnq' : (ns.length == us.length) = true := by rw [HNL.out]; simp
        go_wp2_with fail; ((with_reducible refine (implUnitsValid_any A4 c4 ms wm HX_wm.out.reads.1 hml2).mono ?_); rintro e w6 ⟨rfl, hb_w6⟩); have HB_w6 : Hid (Below w.heap.size w w6) := HB_wm.out.trans (hb_w6.mono HB_wm.out.size); have HX_w6 := Lib.hid (HX_wm.out.below hb_w6); have HF_w6 := Lib.hid (HF_wm.out.below hb_w6); clear hb_w6
        rw [HUV.out]
        go_wp2_with fail; ((with_reducible refine (implOutputsValid_any A4 A3 c4 c3 ms ys w6 HX_w6.out.reads.1 HF_w6.out.reads.1 hml2 hyl).mono ?_); rintro e w7 ⟨rfl, hb_w7⟩); have HB_w7 : Hid (Below w.heap.size w w7) := HB_w6.out.trans (hb_w7.mono HB_w6.out.size); clear hb_w7
        rw [HOV.out]
        go_wp2_with fail
        go_ret
        exact ⟨rfl, HB_w7.out⟩
  · have e := rampOut_f hp
    rw [e] at HX_w3 HZ_w3 HSA ⊢
    clear e hp
    have HSB : Hid (∀ W, Calls Tryd.prog 27 #[.slice A4 0 c4, .slice A5 0 c5] W fun e w' => e = .returned (.bool true) ∧ Below W.heap.size W w') := fun W => HSA.out W reads_nil reads_nil
    go_wp2_with fail
    with_reducible refine (HSB.out w3).mono ?_
    rintro e w4 ⟨rfl, hb4⟩
    have HB_w4 : Hid (Below w.heap.size w w4) := HB_w3.out.trans (hb4.mono HB_w3.out.size)
    clear hb4
    go_wp2_with fail; ((with_reducible refine (alive_any w4).mono ?_); rintro e w5 ⟨rfl, hb_w5⟩); have HB_w5 : Hid (Below w.heap.size w w5) := HB_w4.out.trans (hb_w5.mono HB_w4.out.size); clear hb_w5
    go_wp2_with fail
    go_ret
    exact ⟨rfl, HB_w5.out⟩
end Go.Proofs.YtcpopbkcphpdfaaDoor
