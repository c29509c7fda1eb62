/- Which units run: CommitCost, SpareOf. -/
import Derived.Test.YtcpopbkcphpdfaaDoorCom
namespace Go.Proofs.YtcpopbkcphpdfaaDoor
open Go.RowKit Go.Deep
set_option linter.unusedSimpArgs false
set_option linter.unusedVariables false

def fixeds (xs : List R4) : List Int := xs.map (·.d)
@[simp] theorem fixeds_len (xs : List R4) : (fixeds xs).length = xs.length := by simp [fixeds]
theorem gI_fixeds {xs : List R4} {k : Nat} (h : k < xs.length) : gI (fixeds xs) k = (uAt xs k).d := by
  rw [gI_get (by simpa using h), uAt_get h]; simp [fixeds]
theorem sumI_le_takeF {xs : List R4} (h : UnisP xs) (i : Nat) : 0 ≤ sumI ((fixeds xs).take i) ∧ sumI ((fixeds xs).take i) ≤ 5994 := by
  have h1 := sum_bd (m := 999) (ys := (fixeds xs).take i) (fun y hy => by
    obtain ⟨x, hx, rfl⟩ := List.mem_map.1 (List.mem_of_mem_take hy); have := h.2 x hx; unfold UniOk at this; omega)
  have h2 : ((fixeds xs).take i).length ≤ 6 := by rw [List.length_take, fixeds_len]; have := h.1; omega
  omega
theorem sumI_le_takeM {xs : List R4} (h : UnisP xs) (i : Nat) : 0 ≤ sumI ((mosts xs).take i) ∧ sumI ((mosts xs).take i) ≤ 5994 := by
  have h1 := sum_bd (m := 999) (ys := (mosts xs).take i) (fun y hy => by
    obtain ⟨x, hx, rfl⟩ := List.mem_map.1 (List.mem_of_mem_take hy); have := h.2 x hx; unfold UniOk at this; omega)
  have h2 : ((mosts xs).take i).length ≤ 6 := by rw [List.length_take, mosts_len]; have := h.1; omega
  omega
/-- What it costs that some units run. -/
def comC (xs : List R4) (on : List Bool) (L : Int) : Int := if unisV xs = true ∧ on.length = xs.length then (match dispO (runL xs on) L with
  | none => -1
  | some ys => costSum (runL xs on) ys + sumI (fixeds (runL xs on))) else -1
theorem comC_off {xs : List R4} {on : List Bool} {L : Int} (h : ¬ (unisV xs = true ∧ on.length = xs.length)) : comC xs on L = -1 := by unfold comC; rw [if_neg h]
theorem comC_none {xs : List R4} {on : List Bool} {L : Int} (h : dispO (runL xs on) L = none) : comC xs on L = -1 := by
  unfold comC; rw [h]; split <;> rfl
theorem comC_some {xs : List R4} {on : List Bool} {L : Int} {ys : List Int} (hu : UnisP xs) (hm : on.length = xs.length) (h : dispO (runL xs on) L = some ys) : comC xs on L = costSum (runL xs on) ys + sumI (fixeds (runL xs on)) := by
  unfold comC; rw [if_pos ⟨unisV_t.2 hu, hm⟩, h]
theorem comC_cases (xs : List R4) (on : List Bool) (L : Int) : comC xs on L = -1 ∨ (UnisP xs ∧ on.length = xs.length ∧ sumA (runL xs on) ≤ L ∧ L ≤ sumB (runL xs on) ∧ 0 ≤ comC xs on L ∧ comC xs on L ≤ 600000) := by
  by_cases h : unisV xs = true ∧ on.length = xs.length
  · cases hd : dispO (runL xs on) L with
    | none => exact .inl (comC_none hd)
    | some ys =>
      right
      have hu := unisV_t.1 h.1
      obtain ⟨h1, h2, h3, _⟩ := dispO_some hd
      have hc := (dispO_outs hd).1.cost
      have hf := sumI_le_takeF (runL_unis (on := on) hu) (runL xs on).length
      rw [List.take_of_length_le (by simp)] at hf
      rw [comC_some hu h.2 hd]
      exact ⟨hu, h.2, h2, h3, by omega, by omega⟩
  · exact .inl (comC_off h)
def sprC (xs : List R4) (on : List Bool) (L : Int) : Int := if comC xs on L < 0 then -1 else sumB (runL xs on) - L


set_option maxRecDepth 100000 in
set_option maxHeartbeats 4000000 in
theorem implCommitCost_any (A B : Option Addr) (c d : Nat) (xs : List R4) (on : List Bool) (L : Int) (hL : I64 L) (w : World) (hR : Reads 4 r4C w w.heap.size A xs) (hS : Reads 1 boolC w w.heap.size B on) (hl : xs.length ≤ 1048576) (hl1 : on.length ≤ 1048576) :
    Calls Tryd.prog 42 #[.slice A xs.length c, .slice B on.length d, .int .i64 L] w fun e w' => e = .returned (.int .i64 (comC xs on L)) ∧ Below w.heap.size w w' := by
  have HR := Lib.hid hR; have HS := Lib.hid hS; have HL := Lib.hid hL; clear hR hS hL
  generalize hV : comC xs on L = V
  have HV := Lib.hid hV; clear hV
  by_cases hu : UnisP xs
  · have hv := unisV_t.2 hu
    by_cases hm : on.length = xs.length
    · have hne : ((on.length : Int) != (xs.length : Int)) = false := by simp [hm]
      have HU := Lib.hid hu; have HM := Lib.hid hm; clear hu hm
      have HRU := Lib.hid (runL_unis (on := on) HU.out)
      have hrl : (runL xs on).length ≤ 1048576 := by have := HRU.out.1; omega
      have hrun := fun W h1 h2 => implRunning_any A B c d xs on W h1 h2 hl HM.out
      have HRUN := Lib.hid hrun; clear hrun
      have hVV := HV.out
      cases hd : dispO (runL xs on) L with
      | none =>
        rw [comC_none hd] at hVV
        subst hVV
        have HD := Lib.hid (fun W Aa cc h => hd ▸ implDispatch_any Aa cc (runL xs on) L HL.out W h hrl)
        clear hd HV
        go_enter Tryd.func42, Tryd.ntmps42
        go_wp2_with fail; ((with_reducible refine (implUnitsValid_any A c xs w HR.out hl).mono ?_); rintro e w1 ⟨rfl, hb_1⟩); have hz_1 := hb_1.size; (try simp only [World.size_alloc, World.size_setCell, World.size_drew] at hz_1)
        have HB1 := Lib.hid hb_1; clear hb_1
        go_wp2_with fail
        refine (HRUN.out w1 ((HR.out.below HB1.out (Nat.le_refl _)).more HB1.out.size) ((HS.out.below HB1.out (Nat.le_refl _)).more HB1.out.size)).mono ?_
        rintro e w2 ⟨v2, rfl, hr2, hb2⟩
        have HR2 := Lib.hid hr2
        obtain ⟨B2, d2, rfl, _⟩ := hr2
        have HB2 : Hid (Below w.heap.size w w2) := HB1.out.trans (hb2.mono HB1.out.size)
        clear hb2
        go_wp2_with fail
        refine (HD.out w2 B2 d2 HR2.out.reads.1).mono ?_
        rintro e w3 ⟨v3, rfl, hr3, hb3⟩
        obtain ⟨B3, d3, rfl, _⟩ := hr3
        have HB3 : Hid (Below w.heap.size w w3) := HB2.out.trans (hb3.mono HB2.out.size)
        clear hb3
        go_wp2
        go_ret
        exact ⟨rfl, HB3.out⟩
      | some ys =>
        rw [comC_some HU.out HM.out hd] at hVV
        have ho := (dispO_outs hd).1
        have hc := outCost_ok ho
        have hcb := ho.cost
        have hyl : ys.length ≤ 1048576 := by rw [ho.2.1]; exact hrl
        have HD := Lib.hid (fun W Aa cc h => hd ▸ implDispatch_any Aa cc (runL xs on) L HL.out W h hrl)
        have HCO := Lib.hid (fun W Aa Bb cc dd h1 h2 => hc ▸ implOutputCost_any Aa Bb cc dd (runL xs on) ys W h1 h2 hrl hyl)
        have HV2 := Lib.hid hVV
        obtain ⟨hcb0, hcb1⟩ := hcb
        clear hd HV hVV hc ho
        generalize costSum (runL xs on) ys = C0 at HCO HV2 hcb0 hcb1
        have h6 := HRU.out.1
        generalize runL xs on = us at HRUN HD HCO HV2 HRU hrl h6
        go_enter Tryd.func42, Tryd.ntmps42
        go_wp2_with fail; ((with_reducible refine (implUnitsValid_any A c xs w HR.out hl).mono ?_); rintro e w1 ⟨rfl, hb_2⟩); have hz_2 := hb_2.size; (try simp only [World.size_alloc, World.size_setCell, World.size_drew] at hz_2)
        have HB1 := Lib.hid hb_2; clear hb_2
        go_wp2_with fail
        refine (HRUN.out w1 ((HR.out.below HB1.out (Nat.le_refl _)).more HB1.out.size) ((HS.out.below HB1.out (Nat.le_refl _)).more HB1.out.size)).mono ?_
        rintro e w2 ⟨v2, rfl, hr2, hb2⟩
        have HR2 := Lib.hid hr2
        obtain ⟨B2, d2, rfl, _⟩ := hr2
        have HB2 : Hid (Below w.heap.size w w2) := HB1.out.trans (hb2.mono HB1.out.size)
        clear hb2
        go_wp2_with fail
        refine (HD.out w2 B2 d2 HR2.out.reads.1).mono ?_
        rintro e w3 ⟨v3, rfl, hr3, hb3⟩
        have HR3 := Lib.hid hr3
        obtain ⟨B3, d3, rfl, _⟩ := hr3
        have HB3 : Hid (Below w.heap.size w w3) := HB2.out.trans (hb3.mono HB2.out.size)
        have HR2b := Lib.hid (HR2.out.below hb3)
        clear hb3
        go_wp2_with fail
        refine (HCO.out w3 B2 B3 d2 d3 HR2b.out.reads.1 HR3.out.reads.1).mono ?_
        rintro e w4 ⟨rfl, hb4⟩
        have HB4 : Hid (Below w.heap.size w w4) := HB3.out.trans (hb4.mono HB3.out.size)
        have HR2c := Lib.hid (HR2b.out.below hb4)
        clear hb4
        generalize hn : us.length = n at hrl h6 ⊢
        have HN := Lib.hid hn; clear hn
        go_wp2_with fail
        go_loopw [10, 39] (fun t u wr => ∃ (i : Nat) (y : Int), u = .int .i64 i ∧ i ≤ n ∧ t = .int .i64 (C0 + y) ∧ 0 ≤ y ∧ y ≤ 5994 ∧ Hid (sumI ((fixeds us).take i) = y) ∧ Hid (Below w4.heap.size w4 wr)) (fun _ u _ => n - (intOf u).toNat)
        case atStart => exact ⟨0, 0, rfl, Nat.zero_le _, by simp, by omega, by omega, rfl, Below.refl _ _⟩
        case round =>
          obtain ⟨i, y, rfl, hi, rfl, hy0, hy1, HY, HB⟩ := hrel
          by_cases hlt : i < n
          · have hx : i < us.length := by rw [HN.out]; exact hlt
            obtain ⟨b, off, rfl, hb, hc0, hc1, hc2, hc3⟩ := HR2c.out.reads.1.at4 hx
            have hc0 := (HB.out.cell (p := ⟨b, off + i * 4, none⟩) hb).trans hc0
            have hc1 := (HB.out.cell (p := ⟨b, off + i * 4 + 1, none⟩) hb).trans hc1
            have hc2 := (HB.out.cell (p := ⟨b, off + i * 4 + 2, none⟩) hb).trans hc2
            have hc3 := (HB.out.cell (p := ⟨b, off + i * 4 + 3, none⟩) hb).trans hc3
            have hzw := HB.out.size
            have hbw : b < wr.heap.size := Nat.lt_of_lt_of_le hb hzw
            have t1 : sumI ((fixeds us).take (i + 1)) = y + us[i].d := by rw [sumI_take_succ (by simpa using hx), HY.out, gI_fixeds hx, uAt_get hx]
            have b1 := sumI_le_takeF HRU.out (i + 1)
            have ho := HRU.out.2 us[i] (List.getElem_mem _)
            unfold UniOk at ho
            rw [t1] at b1
            obtain ⟨_, _, _, _, _, o6, o7⟩ := ho
            obtain ⟨b1, b1'⟩ := b1
            generalize us[i] = x at hc0 hc1 hc2 hc3 t1 b1 b1' o6 o7
            have HT1 := Lib.hid t1; clear t1
            go_wp2_with fail
            refine ⟨⟨i + 1, y + x.d, by go_num, by omega, by first | rfl | (congr 1; omega), b1, b1', HT1, ?_⟩, by simp [intOf]; omega⟩
            have hB := HB.out
            unfold Hid
            (repeat' (first | (with_reducible exact Below.refl _ _) | (with_reducible refine Below.alloc ?_ ?_ _) | (with_reducible refine Below.setCell ?_ ?_ _) | (with_reducible refine Below.drew ?_) | (refine Below.trans ?_ (Below.mono (by with_reducible assumption) ?_)) | go_size))
          · go_wp2
            go_ret
            have hB := HB4.out.trans (HB.out.mono HB4.out.size)
            have e1 := HY.out
            rw [List.take_of_length_le (by simp; rw [HN.out]; omega)] at e1
            have e2 := HV2.out
            rw [e1] at e2
            rw [← e2]
            exact ⟨rfl, hB⟩
    · have hne : ((on.length : Int) != (xs.length : Int)) = true := by rw [bned]; simp; omega
      have hVV := HV.out
      rw [comC_off (fun h => hm h.2)] at hVV
      subst hVV
      clear HV hm
      go_enter Tryd.func42, Tryd.ntmps42
      go_wp2_with fail; ((with_reducible refine (implUnitsValid_any A c xs w HR.out hl).mono ?_); rintro e w1 ⟨rfl, hb_3⟩); have hz_3 := hb_3.size; (try simp only [World.size_alloc, World.size_setCell, World.size_drew] at hz_3)
      go_wp2
      go_ret
      exact ⟨rfl, hb_3⟩
  · have hv := unisV_f.2 hu
    have hVV := HV.out
    rw [comC_off (fun h => hu (unisV_t.1 h.1))] at hVV
    subst hVV
    clear HV hu
    go_enter Tryd.func42, Tryd.ntmps42
    go_wp2_with fail; ((with_reducible refine (implUnitsValid_any A c xs w HR.out hl).mono ?_); rintro e w1 ⟨rfl, hb_4⟩); have hz_4 := hb_4.size; (try simp only [World.size_alloc, World.size_setCell, World.size_drew] at hz_4)
    go_wp2
    go_ret
    exact ⟨rfl, hb_4⟩

set_option maxRecDepth 100000 in
set_option maxHeartbeats 4000000 in
theorem implSpareOf_any (A B : Option Addr) (c d : Nat) (xs : List R4) (on : List Bool) (L : Int) (hL : I64 L) (w : World) (hR : Reads 4 r4C w w.heap.size A xs) (hS : Reads 1 boolC w w.heap.size B on) (hl : xs.length ≤ 1048576) (hl1 : on.length ≤ 1048576) :
    Calls Tryd.prog 45 #[.slice A xs.length c, .slice B on.length d, .int .i64 L] w fun e w' => e = .returned (.int .i64 (sprC xs on L)) ∧ Below w.heap.size w w' := by
  have HR := Lib.hid hR; have HS := Lib.hid hS; have HL := Lib.hid hL; clear hR hS hL
  have HCC := Lib.hid (implCommitCost_any A B c d xs on L HL.out w HR.out HS.out hl hl1)
  rcases comC_cases xs on L with h | ⟨hu, hm, hL0, hL1, hc0, hc1⟩
  · have hV : sprC xs on L = -1 := by unfold sprC; rw [h, if_pos (by omega)]
    rw [hV]
    rw [h] at HCC
    clear h hV
    go_enter Tryd.func45, Tryd.ntmps45
    go_wp2_with fail
    refine HCC.out.mono ?_
    rintro e w1 ⟨rfl, hb1⟩
    go_wp2
    go_ret
    exact ⟨rfl, hb1⟩
  · have hV : sprC xs on L = sumB (runL xs on) - L := by unfold sprC; rw [if_neg (by omega)]
    rw [hV]
    clear hV
    have HRU := Lib.hid (runL_unis (on := on) hu)
    have hsm := HRU.out.sums
    have hLb0 : 0 ≤ L := by omega
    have hLb1 : L ≤ 5994 := by omega
    have HRUN := Lib.hid (fun W h1 h2 => implRunning_any A B c d xs on W h1 h2 hl hm)
    clear hsm hL0 hL1 hu hm
    generalize comC xs on L = C0 at HCC hc0 hc1
    generalize runL xs on = us at HRUN HRU ⊢
    have h6 := HRU.out.1
    go_enter Tryd.func45, Tryd.ntmps45
    go_wp2_with fail
    refine HCC.out.mono ?_
    rintro e w1 ⟨rfl, hb1⟩
    have HB1 := Lib.hid hb1; clear hb1
    go_wp2_with fail
    refine (HRUN.out w1 ((HR.out.below HB1.out (Nat.le_refl _)).more HB1.out.size) ((HS.out.below HB1.out (Nat.le_refl _)).more HB1.out.size)).mono ?_
    rintro e w2 ⟨v2, rfl, hr2, hb2⟩
    have HR2 := Lib.hid hr2
    obtain ⟨B2, d2, rfl, _⟩ := hr2
    have HB2 : Hid (Below w.heap.size w w2) := HB1.out.trans (hb2.mono HB1.out.size)
    clear hb2
    generalize hn : us.length = n at h6 ⊢
    have HN := Lib.hid hn; clear hn
    go_wp2_with fail
    go_loopw [7, 21] (fun t u wr => ∃ (i : Nat) (y : Int), u = .int .i64 i ∧ i ≤ n ∧ t = .int .i64 (y - L) ∧ 0 ≤ y ∧ y ≤ 5994 ∧ Hid (sumI ((mosts us).take i) = y) ∧ Hid (Below w2.heap.size w2 wr)) (fun _ u _ => n - (intOf u).toNat)
    case atStart => exact ⟨0, 0, rfl, Nat.zero_le _, by first | rfl | (congr 1; omega), by omega, by omega, rfl, Below.refl _ _⟩
    case round =>
      obtain ⟨i, y, rfl, hi, rfl, hy0, hy1, HY, HB⟩ := hrel
      by_cases hlt : i < n
      · have hx : i < us.length := by rw [HN.out]; exact hlt
        obtain ⟨b, off, rfl, hb, hc0, hc1, hc2, hc3⟩ := HR2.out.reads.1.at4 hx
        have hc0 := (HB.out.cell (p := ⟨b, off + i * 4, none⟩) hb).trans hc0
        have hc1 := (HB.out.cell (p := ⟨b, off + i * 4 + 1, none⟩) hb).trans hc1
        have hc2 := (HB.out.cell (p := ⟨b, off + i * 4 + 2, none⟩) hb).trans hc2
        have hc3 := (HB.out.cell (p := ⟨b, off + i * 4 + 3, none⟩) hb).trans hc3
        have hzw := HB.out.size
        have hbw : b < wr.heap.size := Nat.lt_of_lt_of_le hb hzw
        have t1 : sumI ((mosts us).take (i + 1)) = y + us[i].b := by rw [sumI_take_succ (by simpa using hx), HY.out, gI_mosts hx, uAt_get hx]
        have b1 := sumI_le_takeM HRU.out (i + 1)
        have ho := HRU.out.2 us[i] (List.getElem_mem _)
        unfold UniOk at ho
        rw [t1] at b1
        obtain ⟨o1, o2, o3, _⟩ := ho
        obtain ⟨b1, b1'⟩ := b1
        generalize us[i] = x at hc0 hc1 hc2 hc3 t1 b1 b1' o1 o2 o3
        have HT1 := Lib.hid t1; clear t1
        go_wp2_with fail
        refine ⟨⟨i + 1, y + x.b, by go_num, by omega, by first | rfl | (congr 1; omega), b1, b1', HT1, ?_⟩, by simp [intOf]; omega⟩
        have hB := HB.out
        unfold Hid
        (repeat' (first | (with_reducible exact Below.refl _ _) | (with_reducible refine Below.alloc ?_ ?_ _) | (with_reducible refine Below.setCell ?_ ?_ _) | (with_reducible refine Below.drew ?_) | (refine Below.trans ?_ (Below.mono (by with_reducible assumption) ?_)) | go_size))
      · go_wp2
        go_ret
        have hB := HB2.out.trans (HB.out.mono HB2.out.size)
        have e1 := HY.out
        rw [List.take_of_length_le (by simp; rw [HN.out]; omega)] at e1
        exact ⟨by unfold sumB; rw [e1]; rfl, hB⟩

set_option maxRecDepth 100000 in
set_option maxHeartbeats 4000000 in
theorem specCommitCost_any (A B : Option Addr) (c d : Nat) (xs : List R4) (on : List Bool) (L : Int) (hL : I64 L) (w : World) (hR : Reads 4 r4C w w.heap.size A xs) (hS : Reads 1 boolC w w.heap.size B on) (hl : xs.length ≤ 1048576) (hl1 : on.length ≤ 1048576) :
    Calls Tryd.prog 43 #[.slice A xs.length c, .slice B on.length d, .int .i64 L] w fun e w' => e = .returned (.int .i64 (comC xs on L)) ∧ Below w.heap.size w w' := by
  have HR := Lib.hid hR; have HS := Lib.hid hS; have HL := Lib.hid hL; clear hR hS hL
  generalize hV : comC xs on L = V
  have HV := Lib.hid hV; clear hV
  by_cases hu : UnisP xs
  · have hv := unisV_t.2 hu
    by_cases hm : on.length = xs.length
    · have hne : ((on.length : Int) != (xs.length : Int)) = false := by simp [hm]
      have HU := Lib.hid hu; have HM := Lib.hid hm; clear hu hm
      have HRU := Lib.hid (runL_unis (on := on) HU.out)
      have hrl : (runL xs on).length ≤ 1048576 := by have := HRU.out.1; omega
      have hrun := fun W h1 h2 => specRunning_any A B c d xs on W h1 h2 hl HM.out
      have HRUN := Lib.hid hrun; clear hrun
      have hVV := HV.out
      cases hd : dispO (runL xs on) L with
      | none =>
        rw [comC_none hd] at hVV
        subst hVV
        have HD := Lib.hid (fun W Aa cc h => hd ▸ specDispatch_any Aa cc (runL xs on) L HL.out W h hrl)
        clear hd HV
        go_enter Tryd.func43, Tryd.ntmps43
        go_wp2_with fail; ((with_reducible refine (specUnitsValid_any A c xs w HR.out hl).mono ?_); rintro e w1 ⟨rfl, hb_1⟩); have hz_1 := hb_1.size; (try simp only [World.size_alloc, World.size_setCell, World.size_drew] at hz_1)
        have HB1 := Lib.hid hb_1; clear hb_1
        go_wp2_with fail
        refine (HRUN.out w1 ((HR.out.below HB1.out (Nat.le_refl _)).more HB1.out.size) ((HS.out.below HB1.out (Nat.le_refl _)).more HB1.out.size)).mono ?_
        rintro e w2 ⟨v2, rfl, hr2, hb2⟩
        have HR2 := Lib.hid hr2
        obtain ⟨B2, d2, rfl, _⟩ := hr2
        have HB2 : Hid (Below w.heap.size w w2) := HB1.out.trans (hb2.mono HB1.out.size)
        clear hb2
        go_wp2_with fail
        refine (HD.out w2 B2 d2 HR2.out.reads.1).mono ?_
        rintro e w3 ⟨v3, rfl, hr3, hb3⟩
        obtain ⟨B3, d3, rfl, _⟩ := hr3
        have HB3 : Hid (Below w.heap.size w w3) := HB2.out.trans (hb3.mono HB2.out.size)
        clear hb3
        go_wp2
        go_ret
        exact ⟨rfl, HB3.out⟩
      | some ys =>
        rw [comC_some HU.out HM.out hd] at hVV
        have ho := (dispO_outs hd).1
        have hc := outCost_ok ho
        have hcb := ho.cost
        have hyl : ys.length ≤ 1048576 := by rw [ho.2.1]; exact hrl
        have HD := Lib.hid (fun W Aa cc h => hd ▸ specDispatch_any Aa cc (runL xs on) L HL.out W h hrl)
        have HCO := Lib.hid (fun W Aa Bb cc dd h1 h2 => hc ▸ specOutputCost_any Aa Bb cc dd (runL xs on) ys W h1 h2 hrl hyl)
        have HV2 := Lib.hid hVV
        obtain ⟨hcb0, hcb1⟩ := hcb
        clear hd HV hVV hc ho
        generalize costSum (runL xs on) ys = C0 at HCO HV2 hcb0 hcb1
        have h6 := HRU.out.1
        generalize runL xs on = us at HRUN HD HCO HV2 HRU hrl h6
        go_enter Tryd.func43, Tryd.ntmps43
        go_wp2_with fail; ((with_reducible refine (specUnitsValid_any A c xs w HR.out hl).mono ?_); rintro e w1 ⟨rfl, hb_2⟩); have hz_2 := hb_2.size; (try simp only [World.size_alloc, World.size_setCell, World.size_drew] at hz_2)
        have HB1 := Lib.hid hb_2; clear hb_2
        go_wp2_with fail
        refine (HRUN.out w1 ((HR.out.below HB1.out (Nat.le_refl _)).more HB1.out.size) ((HS.out.below HB1.out (Nat.le_refl _)).more HB1.out.size)).mono ?_
        rintro e w2 ⟨v2, rfl, hr2, hb2⟩
        have HR2 := Lib.hid hr2
        obtain ⟨B2, d2, rfl, _⟩ := hr2
        have HB2 : Hid (Below w.heap.size w w2) := HB1.out.trans (hb2.mono HB1.out.size)
        clear hb2
        go_wp2_with fail
        refine (HD.out w2 B2 d2 HR2.out.reads.1).mono ?_
        rintro e w3 ⟨v3, rfl, hr3, hb3⟩
        have HR3 := Lib.hid hr3
        obtain ⟨B3, d3, rfl, _⟩ := hr3
        have HB3 : Hid (Below w.heap.size w w3) := HB2.out.trans (hb3.mono HB2.out.size)
        have HR2b := Lib.hid (HR2.out.below hb3)
        clear hb3
        go_wp2_with fail
        refine (HCO.out w3 B2 B3 d2 d3 HR2b.out.reads.1 HR3.out.reads.1).mono ?_
        rintro e w4 ⟨rfl, hb4⟩
        have HB4 : Hid (Below w.heap.size w w4) := HB3.out.trans (hb4.mono HB3.out.size)
        have HR2c := Lib.hid (HR2b.out.below hb4)
        clear hb4
        generalize hn : us.length = n at hrl h6 ⊢
        have HN := Lib.hid hn; clear hn
        go_wp2_with fail
        go_loopw [10, 11] (fun t u wr => ∃ (i : Nat) (y : Int), u = .int .i64 i ∧ i ≤ n ∧ t = .int .i64 (C0 + y) ∧ 0 ≤ y ∧ y ≤ 5994 ∧ Hid (sumI ((fixeds us).take i) = y) ∧ Hid (Below w4.heap.size w4 wr)) (fun _ u _ => n - (intOf u).toNat)
        case atStart => exact ⟨0, 0, rfl, Nat.zero_le _, by simp, by omega, by omega, rfl, Below.refl _ _⟩
        case round =>
          obtain ⟨i, y, rfl, hi, rfl, hy0, hy1, HY, HB⟩ := hrel
          by_cases hlt : i < n
          · have hx : i < us.length := by rw [HN.out]; exact hlt
            obtain ⟨b, off, rfl, hb, hc0, hc1, hc2, hc3⟩ := HR2c.out.reads.1.at4 hx
            have hc0 := (HB.out.cell (p := ⟨b, off + i * 4, none⟩) hb).trans hc0
            have hc1 := (HB.out.cell (p := ⟨b, off + i * 4 + 1, none⟩) hb).trans hc1
            have hc2 := (HB.out.cell (p := ⟨b, off + i * 4 + 2, none⟩) hb).trans hc2
            have hc3 := (HB.out.cell (p := ⟨b, off + i * 4 + 3, none⟩) hb).trans hc3
            have hzw := HB.out.size
            have hbw : b < wr.heap.size := Nat.lt_of_lt_of_le hb hzw
            have t1 : sumI ((fixeds us).take (i + 1)) = y + us[i].d := by rw [sumI_take_succ (by simpa using hx), HY.out, gI_fixeds hx, uAt_get hx]
            have b1 := sumI_le_takeF HRU.out (i + 1)
            have ho := HRU.out.2 us[i] (List.getElem_mem _)
            unfold UniOk at ho
            rw [t1] at b1
            obtain ⟨_, _, _, _, _, o6, o7⟩ := ho
            obtain ⟨b1, b1'⟩ := b1
            generalize us[i] = x at hc0 hc1 hc2 hc3 t1 b1 b1' o6 o7
            have HT1 := Lib.hid t1; clear t1
            go_wp2_with fail
            refine ⟨⟨i + 1, y + x.d, by go_num, by omega, by first | rfl | (congr 1; omega), b1, b1', HT1, ?_⟩, by simp [intOf]; omega⟩
            have hB := HB.out
            unfold Hid
            (repeat' (first | (with_reducible exact Below.refl _ _) | (with_reducible refine Below.alloc ?_ ?_ _) | (with_reducible refine Below.setCell ?_ ?_ _) | (with_reducible refine Below.drew ?_) | (refine Below.trans ?_ (Below.mono (by with_reducible assumption) ?_)) | go_size))
          · go_wp2
            go_ret
            have hB := HB4.out.trans (HB.out.mono HB4.out.size)
            have e1 := HY.out
            rw [List.take_of_length_le (by simp; rw [HN.out]; omega)] at e1
            have e2 := HV2.out
            rw [e1] at e2
            rw [← e2]
            exact ⟨rfl, hB⟩
    · have hne : ((on.length : Int) != (xs.length : Int)) = true := by rw [bned]; simp; omega
      have hVV := HV.out
      rw [comC_off (fun h => hm h.2)] at hVV
      subst hVV
      clear HV hm
      go_enter Tryd.func43, Tryd.ntmps43
      go_wp2_with fail; ((with_reducible refine (specUnitsValid_any A c xs w HR.out hl).mono ?_); rintro e w1 ⟨rfl, hb_3⟩); have hz_3 := hb_3.size; (try simp only [World.size_alloc, World.size_setCell, World.size_drew] at hz_3)
      go_wp2
      go_ret
      exact ⟨rfl, hb_3⟩
  · have hv := unisV_f.2 hu
    have hVV := HV.out
    rw [comC_off (fun h => hu (unisV_t.1 h.1))] at hVV
    subst hVV
    clear HV hu
    go_enter Tryd.func43, Tryd.ntmps43
    go_wp2_with fail; ((with_reducible refine (specUnitsValid_any A c xs w HR.out hl).mono ?_); rintro e w1 ⟨rfl, hb_4⟩); have hz_4 := hb_4.size; (try simp only [World.size_alloc, World.size_setCell, World.size_drew] at hz_4)
    go_wp2
    go_ret
    exact ⟨rfl, hb_4⟩

set_option maxRecDepth 100000 in
set_option maxHeartbeats 4000000 in
theorem specSpareOf_any (A B : Option Addr) (c d : Nat) (xs : List R4) (on : List Bool) (L : Int) (hL : I64 L) (w : World) (hR : Reads 4 r4C w w.heap.size A xs) (hS : Reads 1 boolC w w.heap.size B on) (hl : xs.length ≤ 1048576) (hl1 : on.length ≤ 1048576) :
    Calls Tryd.prog 46 #[.slice A xs.length c, .slice B on.length d, .int .i64 L] w fun e w' => e = .returned (.int .i64 (sprC xs on L)) ∧ Below w.heap.size w w' := by
  have HR := Lib.hid hR; have HS := Lib.hid hS; have HL := Lib.hid hL; clear hR hS hL
  have HCC := Lib.hid (specCommitCost_any A B c d xs on L HL.out w HR.out HS.out hl hl1)
  rcases comC_cases xs on L with h | ⟨hu, hm, hL0, hL1, hc0, hc1⟩
  · have hV : sprC xs on L = -1 := by unfold sprC; rw [h, if_pos (by omega)]
    rw [hV]
    rw [h] at HCC
    clear h hV
    go_enter Tryd.func46, Tryd.ntmps46
    go_wp2_with fail
    refine HCC.out.mono ?_
    rintro e w1 ⟨rfl, hb1⟩
    go_wp2
    go_ret
    exact ⟨rfl, hb1⟩
  · have hV : sprC xs on L = sumB (runL xs on) - L := by unfold sprC; rw [if_neg (by omega)]
    rw [hV]
    clear hV
    have HRU := Lib.hid (runL_unis (on := on) hu)
    have hsm := HRU.out.sums
    have hLb0 : 0 ≤ L := by omega
    have hLb1 : L ≤ 5994 := by omega
    have HRUN := Lib.hid (fun W h1 h2 => specRunning_any A B c d xs on W h1 h2 hl hm)
    clear hsm hL0 hL1 hu hm
    generalize comC xs on L = C0 at HCC hc0 hc1
    generalize runL xs on = us at HRUN HRU ⊢
    have h6 := HRU.out.1
    go_enter Tryd.func46, Tryd.ntmps46
    go_wp2_with fail
    refine HCC.out.mono ?_
    rintro e w1 ⟨rfl, hb1⟩
    have HB1 := Lib.hid hb1; clear hb1
    go_wp2_with fail
    refine (HRUN.out w1 ((HR.out.below HB1.out (Nat.le_refl _)).more HB1.out.size) ((HS.out.below HB1.out (Nat.le_refl _)).more HB1.out.size)).mono ?_
    rintro e w2 ⟨v2, rfl, hr2, hb2⟩
    have HR2 := Lib.hid hr2
    obtain ⟨B2, d2, rfl, _⟩ := hr2
    have HB2 : Hid (Below w.heap.size w w2) := HB1.out.trans (hb2.mono HB1.out.size)
    clear hb2
    generalize hn : us.length = n at h6 ⊢
    have HN := Lib.hid hn; clear hn
    go_wp2_with fail
    go_loopw [7, 9] (fun t u wr => ∃ (i : Nat) (y : Int), u = .int .i64 i ∧ i ≤ n ∧ t = .int .i64 (y - L) ∧ 0 ≤ y ∧ y ≤ 5994 ∧ Hid (sumI ((mosts us).take i) = y) ∧ Hid (Below w2.heap.size w2 wr)) (fun _ u _ => n - (intOf u).toNat)
    case atStart => exact ⟨0, 0, rfl, Nat.zero_le _, by first | rfl | (congr 1; omega), by omega, by omega, rfl, Below.refl _ _⟩
    case round =>
      obtain ⟨i, y, rfl, hi, rfl, hy0, hy1, HY, HB⟩ := hrel
      by_cases hlt : i < n
      · have hx : i < us.length := by rw [HN.out]; exact hlt
        obtain ⟨b, off, rfl, hb, hc0, hc1, hc2, hc3⟩ := HR2.out.reads.1.at4 hx
        have hc0 := (HB.out.cell (p := ⟨b, off + i * 4, none⟩) hb).trans hc0
        have hc1 := (HB.out.cell (p := ⟨b, off + i * 4 + 1, none⟩) hb).trans hc1
        have hc2 := (HB.out.cell (p := ⟨b, off + i * 4 + 2, none⟩) hb).trans hc2
        have hc3 := (HB.out.cell (p := ⟨b, off + i * 4 + 3, none⟩) hb).trans hc3
        have hzw := HB.out.size
        have hbw : b < wr.heap.size := Nat.lt_of_lt_of_le hb hzw
        have t1 : sumI ((mosts us).take (i + 1)) = y + us[i].b := by rw [sumI_take_succ (by simpa using hx), HY.out, gI_mosts hx, uAt_get hx]
        have b1 := sumI_le_takeM HRU.out (i + 1)
        have ho := HRU.out.2 us[i] (List.getElem_mem _)
        unfold UniOk at ho
        rw [t1] at b1
        obtain ⟨o1, o2, o3, _⟩ := ho
        obtain ⟨b1, b1'⟩ := b1
        generalize us[i] = x at hc0 hc1 hc2 hc3 t1 b1 b1' o1 o2 o3
        have HT1 := Lib.hid t1; clear t1
        go_wp2_with fail
        refine ⟨⟨i + 1, y + x.b, by go_num, by omega, by first | rfl | (congr 1; omega), b1, b1', HT1, ?_⟩, by simp [intOf]; omega⟩
        have hB := HB.out
        unfold Hid
        (repeat' (first | (with_reducible exact Below.refl _ _) | (with_reducible refine Below.alloc ?_ ?_ _) | (with_reducible refine Below.setCell ?_ ?_ _) | (with_reducible refine Below.drew ?_) | (refine Below.trans ?_ (Below.mono (by with_reducible assumption) ?_)) | go_size))
      · go_wp2
        go_ret
        have hB := HB2.out.trans (HB.out.mono HB2.out.size)
        have e1 := HY.out
        rw [List.take_of_length_le (by simp; rw [HN.out]; omega)] at e1
        exact ⟨by unfold sumB; rw [e1]; rfl, hB⟩
end Go.Proofs.YtcpopbkcphpdfaaDoor
