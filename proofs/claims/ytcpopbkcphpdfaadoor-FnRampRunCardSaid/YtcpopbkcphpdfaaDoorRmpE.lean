/- Ramps: the range of loads. -/
import Derived.Test.YtcpopbkcphpdfaaDoorRmpD
namespace Go.Proofs.YtcpopbkcphpdfaaDoor
open Go.RowKit Go.Deep
set_option linter.unusedSimpArgs false
set_option linter.unusedVariables false

theorem RampP.unis {xs : List R4} {rs ys : List Int} (h : RampP xs rs ys) : UnisP (rampL xs rs ys) := by
  have hl := rampL_len h.2.1 h.1.2.1
  refine ⟨by rw [hl]; exact h.1.1.1, fun u hu => ?_⟩
  obtain ⟨i, hi, rfl⟩ := List.mem_iff_getElem.1 hu
  rw [hl] at hi
  have h1 : i < rs.length := by rw [h.2.1]; exact hi
  have h2 : i < ys.length := by rw [h.1.2.1]; exact hi
  have hg := rampL_get (xs := xs) (rs := rs) (ys := ys) hi h1 h2
  obtain ⟨_, hg⟩ := List.getElem?_eq_some_iff.1 hg
  rw [hg]
  have a1 := h.1.1.2 _ (List.getElem_mem hi)
  have a2 := h.2.2 _ (List.getElem_mem h1)
  have a3 := h.1.2.2 i hi h2
  unfold UniOk at a1
  unfold rampOne UniOk
  simp only
  omega
theorem rampOut_unis (xs : List R4) (rs ys : List Int) : UnisP (rampOut xs rs ys) := by
  unfold rampOut
  split
  · rename_i h; exact (rampB_t.1 h).unis
  · exact ⟨by simp, by simp⟩
def rngLo (us : List R4) : Int := if us.length = 0 then -1 else sumA us
def rngHi (us : List R4) : Int := if us.length = 0 then -1 else sumB us
theorem sumI_le_takeB {xs : List R4} (h : UnisP xs) (i : Nat) : 0 ≤ sumI ((mosts xs).take i) ∧ sumI ((mosts xs).take i) ≤ 5994 := by
  have h1 := sum_bd (m := 999) (ys := (mosts xs).take i) (fun y hy => by
    obtain ⟨x, hx, rfl⟩ := List.mem_map.1 (List.mem_of_mem_take hy); have := h.2 x hx; unfold UniOk at this; omega)
  have h2 : ((mosts xs).take i).length ≤ 6 := by rw [List.length_take, mosts_len]; have := h.1; omega
  omega

set_option maxRecDepth 100000 in
set_option maxHeartbeats 2000000 in
theorem implRampRange_any (A B C : Option Addr) (c d f : Nat) (xs : List R4) (rs ys : List Int) (w : World) (hR : Reads 4 r4C w w.heap.size A xs) (hT : Reads 1 intC w w.heap.size B rs) (hS : Reads 1 intC w w.heap.size C ys) (hl : xs.length ≤ 1048576) (hl1 : rs.length ≤ 1048576) (hl2 : ys.length ≤ 1048576) :
    Calls Tryd.prog 38 #[.slice A xs.length c, .slice B rs.length d, .slice C ys.length f] w fun e w' => e = .returned (.tuple #[.int .i64 (rngLo (rampOut xs rs ys)), .int .i64 (rngHi (rampOut xs rs ys))]) ∧ Below w.heap.size w w' := by
  have HR := Lib.hid hR; have HT := Lib.hid hT; have HS := Lib.hid hS; clear hR hT hS
  by_cases hv : rampB xs rs ys = true
  · by_cases h0 : xs.length = 0
    · have hO := rampOut_len0.2 (fun h : rampB xs rs ys = true ∧ xs.length ≠ 0 => h.2 h0)
      have e1 : rngLo (rampOut xs rs ys) = -1 := by unfold rngLo; rw [if_pos hO]
      have e2 : rngHi (rampOut xs rs ys) = -1 := by unfold rngHi; rw [if_pos hO]
      rw [e1, e2]; clear hO e1 e2
      have hz : ((xs.length : Int) == 0) = true := by simp [h0]
      have hz2 : (xs.length == 0) = true := by simp [h0]
      clear h0
      go_enter Tryd.func38, Tryd.ntmps38
      go_wp2_with fail; ((with_reducible refine (rampsValid_any A B C c d f xs rs ys w HR.out HT.out HS.out hl hl1 hl2).mono ?_); rintro e w1 ⟨rfl, hb_1⟩); have hz_1 := hb_1.size; (try simp only [World.size_alloc, World.size_setCell, World.size_drew] at hz_1)
      go_wp2
      go_ret2
      exact ⟨rfl, hb_1⟩
    · have hO : ¬ (rampOut xs rs ys).length = 0 := fun h => rampOut_len0.1 h ⟨hv, h0⟩
      have e1 : rngLo (rampOut xs rs ys) = sumA (rampOut xs rs ys) := by unfold rngLo; rw [if_neg hO]
      have e2 : rngHi (rampOut xs rs ys) = sumB (rampOut xs rs ys) := by unfold rngHi; rw [if_neg hO]
      rw [e1, e2]; clear hO e1 e2
      have hz : ((xs.length : Int) == 0) = false := beq_eq_false_iff_ne.2 (by omega)
      have hz2 : (xs.length == 0) = false := beq_eq_false_iff_ne.2 (by omega)
      clear h0
      have HUP := Lib.hid (rampOut_unis xs rs ys)
      have HU := Lib.hid (fun W h1 h2 h3 => implRampUnits_any A B C c d f xs rs ys W h1 h2 h3 hl hl1 hl2)
      generalize rampOut xs rs ys = us at HU HUP ⊢
      have h6 := HUP.out.1
      go_enter Tryd.func38, Tryd.ntmps38
      go_wp2_with fail; ((with_reducible refine (rampsValid_any A B C c d f xs rs ys w HR.out HT.out HS.out hl hl1 hl2).mono ?_); rintro e w1 ⟨rfl, hb_2⟩); have hz_2 := hb_2.size; (try simp only [World.size_alloc, World.size_setCell, World.size_drew] at hz_2)
      have HB1 := Lib.hid hb_2; clear hb_2
      go_wp2_with fail
      refine (HU.out w1 ((HR.out.below HB1.out (Nat.le_refl _)).more HB1.out.size) ((HT.out.below HB1.out (Nat.le_refl _)).more HB1.out.size) ((HS.out.below HB1.out (Nat.le_refl _)).more HB1.out.size)).mono ?_
      rintro e w2 ⟨v2, rfl, hr2, hb2⟩
      have HR2 := Lib.hid hr2
      obtain ⟨B2, d2, rfl, _⟩ := hr2
      have HB2 : Hid (Below w.heap.size w w2) := HB1.out.trans (hb2.mono HB1.out.size)
      clear hb2
      generalize hn : us.length = n at h6 ⊢
      have HN := Lib.hid hn; clear hn
      go_wp2_with fail
      go_loopw [8, 9, 27] (fun s t u wr => ∃ (i : Nat) (y z : Int), u = .int .i64 i ∧ i ≤ n ∧ s = .int .i64 y ∧ t = .int .i64 z ∧ 0 ≤ y ∧ y ≤ 5994 ∧ 0 ≤ z ∧ z ≤ 5994 ∧ Hid (sumI ((leasts us).take i) = y) ∧ Hid (sumI ((mosts us).take i) = z) ∧ Hid (Below w2.heap.size w2 wr)) (fun _ _ u _ => n - (intOf u).toNat)
      case atStart => exact ⟨0, 0, 0, rfl, Nat.zero_le _, rfl, rfl, by omega, by omega, by omega, by omega, rfl, rfl, Below.refl _ _⟩
      case round =>
        obtain ⟨i, y, z, rfl, hi, rfl, rfl, hy0, hy1, hz0, hz1, HY, HZ, HB⟩ := hrel
        by_cases hlt : i < n
        · have hx : i < us.length := by rw [HN.out]; exact hlt
          obtain ⟨b, off, rfl, hb, hc0, hc1, hc2, hc3⟩ := HR2.out.reads.1.at4 hx
          have hc0 := (HB.out.cell (p := ⟨b, off + i * 4, none⟩) hb).trans hc0
          have hc1 := (HB.out.cell (p := ⟨b, off + i * 4 + 1, none⟩) hb).trans hc1
          have hc2 := (HB.out.cell (p := ⟨b, off + i * 4 + 2, none⟩) hb).trans hc2
          have hc3 := (HB.out.cell (p := ⟨b, off + i * 4 + 3, none⟩) hb).trans hc3
          have hzw := HB.out.size
          have hbw : b < wr.heap.size := Nat.lt_of_lt_of_le hb hzw
          have t1 : sumI ((leasts us).take (i + 1)) = y + us[i].a := by rw [sumI_take_succ (by simpa using hx), HY.out, gI_leasts hx, uAt_get hx]
          have t2 : sumI ((mosts us).take (i + 1)) = z + us[i].b := by rw [sumI_take_succ (by simpa using hx), HZ.out, gI_mosts hx, uAt_get hx]
          have b1 := sumI_le_take HUP.out (i + 1)
          have b2 := sumI_le_takeB HUP.out (i + 1)
          have ho := HUP.out.2 us[i] (List.getElem_mem _)
          unfold UniOk at ho
          rw [t1] at b1
          rw [t2] at b2
          obtain ⟨o1, o2, o3, _⟩ := ho
          obtain ⟨b1, b1'⟩ := b1
          obtain ⟨b2, b2'⟩ := b2
          generalize us[i] = x at hc0 hc1 hc2 hc3 t1 t2 b1 b1' b2 b2' o1 o2 o3
          have HT1 := Lib.hid t1; have HT2 := Lib.hid t2; clear t1 t2
          go_wp2_with fail
          refine ⟨⟨i + 1, _, _, by go_num, by omega, rfl, rfl, b1, b1', b2, b2', HT1, HT2, ?_⟩, by simp [intOf]; omega⟩
          have hB := HB.out
          unfold Hid
          (repeat' (first | (with_reducible exact Below.refl _ _) | (with_reducible refine Below.alloc ?_ ?_ _) | (with_reducible refine Below.setCell ?_ ?_ _) | (with_reducible refine Below.drew ?_) | (refine Below.trans ?_ (Below.mono (by with_reducible assumption) ?_)) | go_size))
        · go_wp2
          go_ret2
          have hB := HB2.out.trans (HB.out.mono HB2.out.size)
          have e1 := HY.out
          have e2 := HZ.out
          rw [List.take_of_length_le (by simp; rw [HN.out]; omega)] at e1
          rw [List.take_of_length_le (by simp; rw [HN.out]; omega)] at e2
          exact ⟨by unfold sumA sumB; rw [e1, e2]; rfl, hB⟩
  · have hO := rampOut_len0.2 (fun h : rampB xs rs ys = true ∧ xs.length ≠ 0 => hv h.1)
    have e1 : rngLo (rampOut xs rs ys) = -1 := by unfold rngLo; rw [if_pos hO]
    have e2 : rngHi (rampOut xs rs ys) = -1 := by unfold rngHi; rw [if_pos hO]
    rw [e1, e2]; clear hO e1 e2
    have hv' : rampB xs rs ys = false := by simpa using hv
    clear hv
    go_enter Tryd.func38, Tryd.ntmps38
    go_wp2_with fail; ((with_reducible refine (rampsValid_any A B C c d f xs rs ys w HR.out HT.out HS.out hl hl1 hl2).mono ?_); rintro e w1 ⟨rfl, hb_3⟩); have hz_3 := hb_3.size; (try simp only [World.size_alloc, World.size_setCell, World.size_drew] at hz_3)
    go_wp2
    go_ret2
    exact ⟨rfl, hb_3⟩

set_option maxRecDepth 100000 in
set_option maxHeartbeats 2000000 in
theorem specRampRange_any (A B C : Option Addr) (c d f : Nat) (xs : List R4) (rs ys : List Int) (w : World) (hR : Reads 4 r4C w w.heap.size A xs) (hT : Reads 1 intC w w.heap.size B rs) (hS : Reads 1 intC w w.heap.size C ys) (hl : xs.length ≤ 1048576) (hl1 : rs.length ≤ 1048576) (hl2 : ys.length ≤ 1048576) :
    Calls Tryd.prog 39 #[.slice A xs.length c, .slice B rs.length d, .slice C ys.length f] w fun e w' => e = .returned (.tuple #[.int .i64 (rngLo (rampOut xs rs ys)), .int .i64 (rngHi (rampOut xs rs ys))]) ∧ Below w.heap.size w w' := by
  have HU := Lib.hid (specRampUnits_any A B C c d f xs rs ys w hR hT hS hl hl1 hl2)
  clear hR hT hS
  have HUP := Lib.hid (rampOut_unis xs rs ys)
  generalize rampOut xs rs ys = us at HU HUP ⊢
  have h6 := HUP.out.1
  by_cases hO : us.length = 0
  · have e1 : rngLo us = -1 := by unfold rngLo; rw [if_pos hO]
    have e2 : rngHi us = -1 := by unfold rngHi; rw [if_pos hO]
    rw [e1, e2]; clear e1 e2
    have hz : ((us.length : Int) == 0) = true := by simp [hO]
    have hz2 : (us.length == 0) = true := by simp [hO]
    clear hO
    go_enter Tryd.func39, Tryd.ntmps39
    go_wp2_with fail
    refine HU.out.mono ?_
    rintro e w2 ⟨v2, rfl, hr2, hb2⟩
    obtain ⟨B2, d2, rfl, _⟩ := hr2
    go_wp2
    go_ret2
    exact ⟨rfl, hb2⟩
  · have e1 : rngLo us = sumA us := by unfold rngLo; rw [if_neg hO]
    have e2 : rngHi us = sumB us := by unfold rngHi; rw [if_neg hO]
    rw [e1, e2]; clear e1 e2
    have hz : ((us.length : Int) == 0) = false := beq_eq_false_iff_ne.2 (by omega)
    have hz2 : (us.length == 0) = false := beq_eq_false_iff_ne.2 (by omega)
    clear hO
    go_enter Tryd.func39, Tryd.ntmps39
    go_wp2_with fail
    refine HU.out.mono ?_
    rintro e w2 ⟨v2, rfl, hr2, hb2⟩
    have HR2 := Lib.hid hr2
    obtain ⟨B2, d2, rfl, _⟩ := hr2
    have HB2 := Lib.hid hb2; clear hb2
    generalize hn : us.length = n at h6 hz hz2 ⊢
    have HN := Lib.hid hn; clear hn
    go_wp2_with fail
    go_loopw [9, 10, 11] (fun s t u wr => ∃ (i : Nat) (y z : Int), u = .int .i64 i ∧ i ≤ n ∧ s = .int .i64 y ∧ t = .int .i64 z ∧ 0 ≤ y ∧ y ≤ 5994 ∧ 0 ≤ z ∧ z ≤ 5994 ∧ Hid (sumI ((leasts us).take i) = y) ∧ Hid (sumI ((mosts us).take i) = z) ∧ Hid (wr = w2)) (fun _ _ u _ => n - (intOf u).toNat)
    case atStart => exact ⟨0, 0, 0, rfl, Nat.zero_le _, rfl, rfl, by omega, by omega, by omega, by omega, rfl, rfl, rfl⟩
    case round =>
      obtain ⟨i, y, z, rfl, hi, rfl, rfl, hy0, hy1, hz0, hz1, HY, HZ, HW⟩ := hrel
      have hw := HW.out
      subst hw
      clear HW
      by_cases hlt : i < n
      · have hx : i < us.length := by rw [HN.out]; exact hlt
        obtain ⟨b, off, rfl, hb, hc0, hc1, u2, u3⟩ := HR2.out.reads.1.at4 hx
        clear u2 u3
        have t1 : sumI ((leasts us).take (i + 1)) = y + us[i].a := by rw [sumI_take_succ (by simpa using hx), HY.out, gI_leasts hx, uAt_get hx]
        have t2 : sumI ((mosts us).take (i + 1)) = z + us[i].b := by rw [sumI_take_succ (by simpa using hx), HZ.out, gI_mosts hx, uAt_get hx]
        have b1 := sumI_le_take HUP.out (i + 1)
        have b2 := sumI_le_takeB HUP.out (i + 1)
        have ho := HUP.out.2 us[i] (List.getElem_mem _)
        unfold UniOk at ho
        rw [t1] at b1
        rw [t2] at b2
        obtain ⟨o1, o2, o3, _⟩ := ho
        obtain ⟨b1, b1'⟩ := b1
        obtain ⟨b2, b2'⟩ := b2
        generalize us[i] = x at hc0 hc1 t1 t2 b1 b1' b2 b2' o1 o2 o3
        have HT1 := Lib.hid t1; have HT2 := Lib.hid t2; clear t1 t2
        go_wp2_with fail
        exact ⟨⟨i + 1, _, _, by go_num, by omega, rfl, rfl, b1, b1', b2, b2', HT1, HT2, by first | exact rfl | exact trivial⟩, by simp [intOf]; omega⟩
      · go_wp2
        go_ret2
        have e1 := HY.out
        have e2 := HZ.out
        rw [List.take_of_length_le (by simp; rw [HN.out]; omega)] at e1
        rw [List.take_of_length_le (by simp; rw [HN.out]; omega)] at e2
        exact ⟨by unfold sumA sumB; rw [e1, e2]; rfl, HB2.out⟩
end Go.Proofs.YtcpopbkcphpdfaaDoor
