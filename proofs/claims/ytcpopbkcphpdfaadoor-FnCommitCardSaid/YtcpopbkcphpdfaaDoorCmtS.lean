/- Commit: the reference's. -/
import Derived.Test.YtcpopbkcphpdfaaDoorCmt
namespace Go.Proofs.YtcpopbkcphpdfaaDoor
open Go.RowKit Go.Deep
set_option linter.unusedSimpArgs false
set_option linter.unusedVariables false

/-- Where the reference's search stands behind the first s states. -/
def CmtS (xs : List R4) (L sp : Int) (s : Nat) (w wr : World) (t8 t9 : Value) : Prop :=
  (bestF xs L sp s = -1 ∧ (∃ A c, t8 = .slice A 0 c) ∧ t9 = .int .i64 (-1)) ∨ ∃ b A c, bestF xs L sp s = (b : Nat) ∧ b < s ∧ t8 = .slice A xs.length c ∧ t9 = .int .i64 (comS xs L b) ∧ Res 1 boolC 4 wr w.heap.size (.slice A xs.length c) (bitsL b xs.length)
theorem CmtS.keep {xs : List R4} {L sp : Int} {s s' : Nat} {w wr wr' : World} {t8 t9 : Value} (h : CmtS xs L sp s w wr t8 t9) (he : bestF xs L sp s' = bestF xs L sp s) (hs : s ≤ s') (hb : Below wr.heap.size wr wr') : CmtS xs L sp s' w wr' t8 t9 := by
  rcases h with ⟨h1, h2⟩ | ⟨b, A, c, h1, h2, h3, h4, h6⟩
  · exact .inl ⟨he.trans h1, h2⟩
  · exact .inr ⟨b, A, c, he.trans h1, by omega, h3, h4, h6.below hb⟩

set_option maxRecDepth 100000 in
set_option maxHeartbeats 16000000 in
theorem specCommit_any (A : Option Addr) (c : Nat) (xs : List R4) (L sp : Int) (hL : I64 L) (w : World) (hR : Reads 4 r4C w w.heap.size A xs) (hl : xs.length ≤ 1048576) :
    Calls Tryd.prog 54 #[.slice A xs.length c, .int .i64 L, .int .i64 sp] w (RetP 1 boolC 4 w ((cmtO xs L sp).getD []) (cmtO xs L sp).isSome) := by
  have HR := Lib.hid hR; have HL := Lib.hid hL; clear hR hL
  have HRa : Hid (Reads 4 r4C (w.alloc (.cells #[] 4)) (w.alloc (.cells #[] 4)).heap.size A xs) := by
    unfold Hid
    exact (HR.out.below (Below.alloc (Below.refl _ _) (Nat.le_refl _) _) (Nat.le_refl _)).more (by simp)
  by_cases hu : UnisP xs
  · have hv := unisV_t.2 hu
    by_cases hsp : 0 ≤ sp
    · have h6 := hu.1
      have HU := Lib.hid hu; clear hu
      have hsp' : ¬ sp < 0 := by omega
      have hpw := pow_bd h6
      generalize hNN : 2 ^ xs.length = NN at hpw
      have hNI : (2 : Int) ^ xs.length = (NN : Int) := by rw [← hNN]; push_cast; rfl
      obtain ⟨hp1, hp2⟩ := hpw
      have HNN := Lib.hid hNN; clear hNN
      have hcm : ∀ (s : Nat) (W : World) (Aa : Option Addr) (cc : Nat), Reads 4 r4C W W.heap.size A xs → Reads 1 boolC W W.heap.size Aa (bitsL s xs.length) → Calls Tryd.prog 43 #[.slice A xs.length c, .slice Aa xs.length cc, .int .i64 L] W fun e w' => e = .returned (.int .i64 (comS xs L s)) ∧ Below W.heap.size W w' := by
        intro s W Aa cc h1 h2
        have := specCommitCost_any A Aa c cc xs (bitsL s xs.length) L HL.out W h1 h2 hl (by rw [bitsL_len]; exact hl)
        rw [bitsL_len] at this
        exact this
      have hsc : ∀ (s : Nat) (W : World) (Aa : Option Addr) (cc : Nat), Reads 4 r4C W W.heap.size A xs → Reads 1 boolC W W.heap.size Aa (bitsL s xs.length) → Calls Tryd.prog 46 #[.slice A xs.length c, .slice Aa xs.length cc, .int .i64 L] W fun e w' => e = .returned (.int .i64 (sprS xs L s)) ∧ Below W.heap.size W w' := by
        intro s W Aa cc h1 h2
        have := specSpareOf_any A Aa c cc xs (bitsL s xs.length) L HL.out W h1 h2 hl (by rw [bitsL_len]; exact hl)
        rw [bitsL_len] at this
        exact this
      have HCM := Lib.hid hcm; have HSP := Lib.hid hsc; clear hcm hsc
      have hrn : ∀ (s : Nat) (W : World) (Aa : Option Addr) (cc : Nat), Reads 4 r4C W W.heap.size A xs → Reads 1 boolC W W.heap.size Aa (bitsL s xs.length) → s < NN → Calls Tryd.prog 75 #[.slice A xs.length c, .slice Aa xs.length cc] W fun e w' => ∃ Bb dd, e = .returned (.slice Bb (popN s) dd) ∧ Below W.heap.size W w' := by
        intro s W Aa cc h1 h2 hs
        have := specRunning_any A Aa c cc xs (bitsL s xs.length) W h1 h2 hl (by simp)
        rw [bitsL_len] at this
        refine this.mono ?_
        rintro e w' ⟨v, rfl, ⟨Bb, dd, rfl, _⟩, hb⟩
        rw [run_pop (by omega) (by rw [HNN.out]; exact hs)]
        exact ⟨Bb, dd, rfl, hb⟩
      have HRN := Lib.hid hrn; clear hrn
      go_enter Tryd.func54, Tryd.ntmps54
      go_wp2_with fail; ((with_reducible refine (specUnitsValid_any A c xs _ HRa.out hl).mono ?_); rintro e w1 ⟨rfl, hb_1⟩); have hz_1 := hb_1.size; (try simp only [World.size_alloc, World.size_setCell, World.size_drew] at hz_1)
      have HB1 : Hid (Below w.heap.size w w1) := by unfold Hid; (repeat' (first | (with_reducible exact Below.refl _ _) | (with_reducible refine Below.alloc ?_ ?_ _) | (with_reducible refine Below.setCell ?_ ?_ _) | (with_reducible refine Below.drew ?_) | (refine Below.trans ?_ (Below.mono (by with_reducible assumption) ?_)) | go_size))
      clear hb_1 hz_1
      go_wp2_with fail
      go_loopw [8, 9, 10] (fun t8 t9 u wr => ∃ (s : Nat), u = .int .i64 s ∧ s ≤ NN ∧ Hid (CmtS xs L sp s w wr t8 t9) ∧ Hid (Below w.heap.size w wr)) (fun _ _ u _ => NN - (intOf u).toNat)
      case atStart => exact ⟨0, rfl, Nat.zero_le _, .inl ⟨rfl, ⟨_, _, rfl⟩, rfl⟩, HB1⟩
      case round =>
        obtain ⟨s, rfl, hs, HC, HB⟩ := hrel
        clear HB1
        have hzw := HB.out.size
        by_cases hlt : s < NN
        · have hlt' : s < 2 ^ xs.length := by rw [HNN.out]; exact hlt
          have HLT := Lib.hid hlt'; clear hlt'
          have hpp := pop_le s
          rcases comC_cases xs (bitsL s xs.length) L with hneg | ⟨_, _, _, _, hc0, hc1⟩
          · have hco : comS xs L s = -1 := hneg
            have hkeep : bestF xs L sp (s + 1) = bestF xs L sp s := bestF_off (fun h => by rw [hco] at h; omega)
            have HCO := Lib.hid hco; have HKP := Lib.hid hkeep; clear hco hkeep hneg
            go_wp2_with fail
            refine (specStateOf_any s xs.length (by omega) HLT.out wr).mono ?_
            rintro e w2 ⟨v2, rfl, hr2, hb2⟩
            have HV2 := Lib.hid hr2
            obtain ⟨A2, d2, rfl, _⟩ := hr2
            have hr2 := HV2.out
            rw [bitsL_len] at hr2 ⊢
            clear HV2
            have HR2 := Lib.hid hr2
            have HB2 : Hid (Below w.heap.size w w2) := HB.out.trans (hb2.mono hzw)
            have HBx2 := Lib.hid hb2
            clear hr2 hb2
            go_wp2_with fail
            refine (HCM.out s w2 _ d2 ((HR.out.below HB2.out (Nat.le_refl _)).more HB2.out.size) HR2.out.reads.1).mono ?_
            rintro e w3 ⟨rfl, hb3⟩
            have HR3 := Lib.hid (HR2.out.below hb3)
            have HB3 : Hid (Below w.heap.size w w3) := HB2.out.trans (hb3.mono HB2.out.size)
            have HBx3 : Hid (Below wr.heap.size wr w3) := HBx2.out.trans (hb3.mono HBx2.out.size)
            clear hb3
            rw [HCO.out]
            go_wp2_with fail
            exact ⟨⟨s + 1, by go_num, by omega, HC.out.keep HKP.out (by omega) HBx3.out, HB3⟩, by simp [intOf]; omega⟩
          · have hce : ∃ C0, comS xs L s = C0 := ⟨_, rfl⟩
            obtain ⟨C0, hce⟩ := hce
            have hc0 : 0 ≤ C0 := by rw [← hce]; exact hc0
            have hc1 : C0 ≤ 600000 := by rw [← hce]; exact hc1
            have HCO := Lib.hid hce; clear hce
            have hcd : decide (C0 < 0) = false := by simp; omega
            have hcn : ¬ C0 < 0 := by omega
            obtain ⟨S0, hse⟩ : ∃ S0, sprS xs L s = S0 := ⟨_, rfl⟩
            have HSE := Lib.hid hse; clear hse
            by_cases hsv : S0 < sp
            · have hkeep : bestF xs L sp (s + 1) = bestF xs L sp s := bestF_off (fun h => by rw [HSE.out] at h; omega)
              have HKP := Lib.hid hkeep; clear hkeep
              go_wp2_with fail
              refine (specStateOf_any s xs.length (by omega) HLT.out wr).mono ?_
              rintro e w2 ⟨v2, rfl, hr2, hb2⟩
              have HV2 := Lib.hid hr2
              obtain ⟨A2, d2, rfl, _⟩ := hr2
              have hr2 := HV2.out
              rw [bitsL_len] at hr2 ⊢
              clear HV2
              have HR2 := Lib.hid hr2
              have HB2 : Hid (Below w.heap.size w w2) := HB.out.trans (hb2.mono hzw)
              have HBx2 := Lib.hid hb2
              clear hr2 hb2
              go_wp2_with fail
              refine (HCM.out s w2 _ d2 ((HR.out.below HB2.out (Nat.le_refl _)).more HB2.out.size) HR2.out.reads.1).mono ?_
              rintro e w3 ⟨rfl, hb3⟩
              have HR3 := Lib.hid (HR2.out.below hb3)
              have HB3 : Hid (Below w.heap.size w w3) := HB2.out.trans (hb3.mono HB2.out.size)
              have HBx3 : Hid (Below wr.heap.size wr w3) := HBx2.out.trans (hb3.mono HBx2.out.size)
              clear hb3
              rw [HCO.out]
              go_wp2_with fail
              refine (HSP.out s w3 _ d2 ((HR.out.below HB3.out (Nat.le_refl _)).more HB3.out.size) HR3.out.reads.1).mono ?_
              rintro e w4 ⟨rfl, hb4⟩
              have HR4 := Lib.hid (HR3.out.below hb4)
              have HB4 : Hid (Below w.heap.size w w4) := HB3.out.trans (hb4.mono HB3.out.size)
              have HBx4 : Hid (Below wr.heap.size wr w4) := HBx3.out.trans (hb4.mono HBx3.out.size)
              clear hb4
              rw [HSE.out]
              go_wp2_with fail
              exact ⟨⟨s + 1, by go_num, by omega, HC.out.keep HKP.out (by omega) HBx4.out, HB4⟩, by simp [intOf]; omega⟩
            · have hok : 0 ≤ comS xs L s ∧ sp ≤ sprS xs L s := by rw [HCO.out, HSE.out]; exact ⟨hc0, by omega⟩
              have HOK := Lib.hid hok; clear hok
              rcases HC.out with ⟨hb, ⟨A8, c8, rfl⟩, rfl⟩ | ⟨b, Ab, cb, hb, hbs, rfl, rfl, hrb⟩
              · have hnew := bestF_first HOK.out hb
                have HNEW := Lib.hid hnew; clear hnew hb
                go_wp2_with fail
                refine (specStateOf_any s xs.length (by omega) HLT.out wr).mono ?_
                rintro e w2 ⟨v2, rfl, hr2, hb2⟩
                have HV2 := Lib.hid hr2
                obtain ⟨A2, d2, rfl, _⟩ := hr2
                have hr2 := HV2.out
                rw [bitsL_len] at hr2 ⊢
                clear HV2
                have HR2 := Lib.hid hr2
                have HB2 : Hid (Below w.heap.size w w2) := HB.out.trans (hb2.mono hzw)
                have HBx2 := Lib.hid hb2
                clear hr2 hb2
                go_wp2_with fail
                refine (HCM.out s w2 _ d2 ((HR.out.below HB2.out (Nat.le_refl _)).more HB2.out.size) HR2.out.reads.1).mono ?_
                rintro e w3 ⟨rfl, hb3⟩
                have HR3 := Lib.hid (HR2.out.below hb3)
                have HB3 : Hid (Below w.heap.size w w3) := HB2.out.trans (hb3.mono HB2.out.size)
                have HBx3 : Hid (Below wr.heap.size wr w3) := HBx2.out.trans (hb3.mono HBx2.out.size)
                clear hb3
                rw [HCO.out]
                go_wp2_with fail
                refine (HSP.out s w3 _ d2 ((HR.out.below HB3.out (Nat.le_refl _)).more HB3.out.size) HR3.out.reads.1).mono ?_
                rintro e w4 ⟨rfl, hb4⟩
                have HR4 := Lib.hid (HR3.out.below hb4)
                have HB4 : Hid (Below w.heap.size w w4) := HB3.out.trans (hb4.mono HB3.out.size)
                have HBx4 : Hid (Below wr.heap.size wr w4) := HBx3.out.trans (hb4.mono HBx3.out.size)
                clear hb4
                rw [HSE.out]
                go_wp2_with fail
                refine ⟨⟨s + 1, by go_num, by omega, .inr ⟨s, A2, d2, HNEW.out, by omega, rfl, by rw [HCO.out], HR4.out.mono hzw⟩, HB4⟩, by simp [intOf]; omega⟩
              · skip
                have HRB := Lib.hid hrb; clear hrb
                have hcb : comC xs (bitsL b xs.length) L = -1 ∨ _ := comC_cases xs (bitsL b xs.length) L
                have hbb : 0 ≤ comS xs L b ∧ comS xs L b ≤ 600000 := by
                  rcases bestF_bd xs L sp s with h | ⟨b', h, _, h0, _⟩
                  · rw [hb] at h; omega
                  · have : b' = b := by rw [hb] at h; omega
                    subst this
                    refine ⟨h0, ?_⟩
                    rcases comC_cases xs (bitsL b' xs.length) L with h1 | h1
                    · unfold comS at h0; omega
                    · exact h1.2.2.2.2.2
                clear hcb
                have hpb := pop_le b
                have hnw := fun hn => bestF_new HOK.out hb hn
                have hod := fun hn => bestF_old (s := s) hb hn
                rw [HCO.out] at hnw hod
                have hbN : b < NN := by omega
                generalize hcb : comS xs L b = Cb at hbb hnw hod
                have HCB := Lib.hid hcb; have HNW := Lib.hid hnw; have HOD := Lib.hid hod; have HBE := Lib.hid hb
                obtain ⟨hbb0, hbb1⟩ := hbb
                clear hcb hnw hod hb
                have hbd : decide (Cb < 0) = false := by simp; omega
                obtain ⟨Ps, hps⟩ : ∃ Ps : Int, ((popN s : Nat) : Int) = Ps := ⟨_, rfl⟩
                obtain ⟨Pb, hpb2⟩ : ∃ Pb : Int, ((popN b : Nat) : Int) = Pb := ⟨_, rfl⟩
                have hPs0 : 0 ≤ Ps := by omega
                have hPs1 : Ps ≤ 8 := by omega
                have hPb0 : 0 ≤ Pb := by omega
                have hPb1 : Pb ≤ 8 := by omega
                have HPS := Lib.hid hps; have HPB := Lib.hid hpb2; clear hps hpb2 hpp hpb
                by_cases q1 : C0 < Cb
                · skip
                  have hnew := HNW.out (.inl q1)
                  have hq1 : decide (C0 < Cb) = true := by simp [q1]
                  have HNEW := Lib.hid hnew; clear hnew
                  go_wp2_with fail
                  refine (specStateOf_any s xs.length (by omega) HLT.out wr).mono ?_
                  rintro e w2 ⟨v2, rfl, hr2, hb2⟩
                  have HV2 := Lib.hid hr2
                  obtain ⟨A2, d2, rfl, _⟩ := hr2
                  have hr2 := HV2.out
                  rw [bitsL_len] at hr2 ⊢
                  clear HV2
                  have HR2 := Lib.hid hr2
                  have HB2 : Hid (Below w.heap.size w w2) := HB.out.trans (hb2.mono hzw)
                  have HBx2 := Lib.hid hb2
                  clear hr2 hb2
                  go_wp2_with fail
                  refine (HCM.out s w2 _ d2 ((HR.out.below HB2.out (Nat.le_refl _)).more HB2.out.size) HR2.out.reads.1).mono ?_
                  rintro e w3 ⟨rfl, hb3⟩
                  have HR3 := Lib.hid (HR2.out.below hb3)
                  have HB3 : Hid (Below w.heap.size w w3) := HB2.out.trans (hb3.mono HB2.out.size)
                  have HBx3 : Hid (Below wr.heap.size wr w3) := HBx2.out.trans (hb3.mono HBx2.out.size)
                  clear hb3
                  rw [HCO.out]
                  go_wp2_with fail
                  refine (HSP.out s w3 _ d2 ((HR.out.below HB3.out (Nat.le_refl _)).more HB3.out.size) HR3.out.reads.1).mono ?_
                  rintro e w4 ⟨rfl, hb4⟩
                  have HR4 := Lib.hid (HR3.out.below hb4)
                  have HB4 : Hid (Below w.heap.size w w4) := HB3.out.trans (hb4.mono HB3.out.size)
                  have HBx4 : Hid (Below wr.heap.size wr w4) := HBx3.out.trans (hb4.mono HBx3.out.size)
                  clear hb4
                  rw [HSE.out]
                  try rw [HCB.out]
                  have HRB4 := Lib.hid (HRB.out.below HBx4.out)
                  have HRN4 := HR4
                  have HRBN := HRB4
                  go_wp2_with fail
                  refine ⟨⟨s + 1, by go_num, by omega, .inr ⟨s, A2, d2, HNEW.out, by omega, rfl, by rw [HCO.out], HRN4.out.mono hzw⟩, HB4⟩, by simp [intOf]; omega⟩
                · by_cases q2 : C0 = Cb
                  · have hq2 : (C0 == Cb) = true := by simp [q2]
                    by_cases q3 : Ps < Pb
                    · skip
                      have hnew := HNW.out (.inr ⟨q2, by have := HPS.out; have := HPB.out; omega⟩)
                      have hq1 : decide (C0 < Cb) = false := by simp; omega
                      have hq3 : decide (Ps < Pb) = true := by simp [q3]
                      have hq3n : decide (popN s < popN b) = true := by have := HPS.out; have := HPB.out; simp; omega
                      clear q2
                      have HNEW := Lib.hid hnew; clear hnew
                      go_wp2_with fail
                      refine (specStateOf_any s xs.length (by omega) HLT.out wr).mono ?_
                      rintro e w2 ⟨v2, rfl, hr2, hb2⟩
                      have HV2 := Lib.hid hr2
                      obtain ⟨A2, d2, rfl, _⟩ := hr2
                      have hr2 := HV2.out
                      rw [bitsL_len] at hr2 ⊢
                      clear HV2
                      have HR2 := Lib.hid hr2
                      have HB2 : Hid (Below w.heap.size w w2) := HB.out.trans (hb2.mono hzw)
                      have HBx2 := Lib.hid hb2
                      clear hr2 hb2
                      go_wp2_with fail
                      refine (HCM.out s w2 _ d2 ((HR.out.below HB2.out (Nat.le_refl _)).more HB2.out.size) HR2.out.reads.1).mono ?_
                      rintro e w3 ⟨rfl, hb3⟩
                      have HR3 := Lib.hid (HR2.out.below hb3)
                      have HB3 : Hid (Below w.heap.size w w3) := HB2.out.trans (hb3.mono HB2.out.size)
                      have HBx3 : Hid (Below wr.heap.size wr w3) := HBx2.out.trans (hb3.mono HBx2.out.size)
                      clear hb3
                      rw [HCO.out]
                      go_wp2_with fail
                      refine (HSP.out s w3 _ d2 ((HR.out.below HB3.out (Nat.le_refl _)).more HB3.out.size) HR3.out.reads.1).mono ?_
                      rintro e w4 ⟨rfl, hb4⟩
                      have HR4 := Lib.hid (HR3.out.below hb4)
                      have HB4 : Hid (Below w.heap.size w w4) := HB3.out.trans (hb4.mono HB3.out.size)
                      have HBx4 : Hid (Below wr.heap.size wr w4) := HBx3.out.trans (hb4.mono HBx3.out.size)
                      clear hb4
                      rw [HSE.out]
                      try rw [HCB.out]
                      have HRB4 := Lib.hid (HRB.out.below HBx4.out)
                      go_wp2_with fail
                      refine (HRN.out s w4 _ d2 ((HR.out.below HB4.out (Nat.le_refl _)).more HB4.out.size) HR4.out.reads.1 hlt).mono ?_
                      rintro e w5 ⟨B5, d5, rfl, hb5⟩
                      have HR5 := Lib.hid (HR4.out.below hb5)
                      have HRB5 := Lib.hid (HRB4.out.below hb5)
                      have HB5 : Hid (Below w.heap.size w w5) := HB4.out.trans (hb5.mono HB4.out.size)
                      clear hb5
                      go_wp2_with fail
                      refine (HRN.out b w5 _ cb ((HR.out.below HB5.out (Nat.le_refl _)).more HB5.out.size) HRB5.out.reads.1 hbN).mono ?_
                      rintro e w6 ⟨B6, d6, rfl, hb6⟩
                      have HRN4 := Lib.hid (HR5.out.below hb6)
                      have HRBN := Lib.hid (HRB5.out.below hb6)
                      have HB6 : Hid (Below w.heap.size w w6) := HB5.out.trans (hb6.mono HB5.out.size)
                      clear hb6
                      go_wp2_with fail
                      refine ⟨⟨s + 1, by go_num, by omega, .inr ⟨s, A2, d2, HNEW.out, by omega, rfl, by rw [HCO.out], HRN4.out.mono hzw⟩, HB6⟩, by simp [intOf]; omega⟩
                    · skip
                      have hnew := HOD.out (fun h => by have := HPS.out; have := HPB.out; omega)
                      have hq1 : decide (C0 < Cb) = false := by simp; omega
                      have hq3 : decide (Ps < Pb) = false := by simp; omega
                      have hq3n : decide (popN s < popN b) = false := by have := HPS.out; have := HPB.out; simp; omega
                      clear q2
                      have HNEW := Lib.hid hnew; clear hnew
                      go_wp2_with fail
                      refine (specStateOf_any s xs.length (by omega) HLT.out wr).mono ?_
                      rintro e w2 ⟨v2, rfl, hr2, hb2⟩
                      have HV2 := Lib.hid hr2
                      obtain ⟨A2, d2, rfl, _⟩ := hr2
                      have hr2 := HV2.out
                      rw [bitsL_len] at hr2 ⊢
                      clear HV2
                      have HR2 := Lib.hid hr2
                      have HB2 : Hid (Below w.heap.size w w2) := HB.out.trans (hb2.mono hzw)
                      have HBx2 := Lib.hid hb2
                      clear hr2 hb2
                      go_wp2_with fail
                      refine (HCM.out s w2 _ d2 ((HR.out.below HB2.out (Nat.le_refl _)).more HB2.out.size) HR2.out.reads.1).mono ?_
                      rintro e w3 ⟨rfl, hb3⟩
                      have HR3 := Lib.hid (HR2.out.below hb3)
                      have HB3 : Hid (Below w.heap.size w w3) := HB2.out.trans (hb3.mono HB2.out.size)
                      have HBx3 : Hid (Below wr.heap.size wr w3) := HBx2.out.trans (hb3.mono HBx2.out.size)
                      clear hb3
                      rw [HCO.out]
                      go_wp2_with fail
                      refine (HSP.out s w3 _ d2 ((HR.out.below HB3.out (Nat.le_refl _)).more HB3.out.size) HR3.out.reads.1).mono ?_
                      rintro e w4 ⟨rfl, hb4⟩
                      have HR4 := Lib.hid (HR3.out.below hb4)
                      have HB4 : Hid (Below w.heap.size w w4) := HB3.out.trans (hb4.mono HB3.out.size)
                      have HBx4 : Hid (Below wr.heap.size wr w4) := HBx3.out.trans (hb4.mono HBx3.out.size)
                      clear hb4
                      rw [HSE.out]
                      try rw [HCB.out]
                      have HRB4 := Lib.hid (HRB.out.below HBx4.out)
                      go_wp2_with fail
                      refine (HRN.out s w4 _ d2 ((HR.out.below HB4.out (Nat.le_refl _)).more HB4.out.size) HR4.out.reads.1 hlt).mono ?_
                      rintro e w5 ⟨B5, d5, rfl, hb5⟩
                      have HR5 := Lib.hid (HR4.out.below hb5)
                      have HRB5 := Lib.hid (HRB4.out.below hb5)
                      have HB5 : Hid (Below w.heap.size w w5) := HB4.out.trans (hb5.mono HB4.out.size)
                      clear hb5
                      go_wp2_with fail
                      refine (HRN.out b w5 _ cb ((HR.out.below HB5.out (Nat.le_refl _)).more HB5.out.size) HRB5.out.reads.1 hbN).mono ?_
                      rintro e w6 ⟨B6, d6, rfl, hb6⟩
                      have HRN4 := Lib.hid (HR5.out.below hb6)
                      have HRBN := Lib.hid (HRB5.out.below hb6)
                      have HB6 : Hid (Below w.heap.size w w6) := HB5.out.trans (hb6.mono HB5.out.size)
                      clear hb6
                      go_wp2_with fail
                      refine ⟨⟨s + 1, by go_num, by omega, .inr ⟨b, Ab, cb, HNEW.out, by omega, rfl, by rw [HCB.out], HRBN.out⟩, HB6⟩, by simp [intOf]; omega⟩
                  · have hq2 : (C0 == Cb) = false := by simp [q2]
                    have hnew := HOD.out (fun h => by omega)
                    have hq1 : decide (C0 < Cb) = false := by simp; omega
                    have HNEW := Lib.hid hnew; clear hnew
                    go_wp2_with fail
                    refine (specStateOf_any s xs.length (by omega) HLT.out wr).mono ?_
                    rintro e w2 ⟨v2, rfl, hr2, hb2⟩
                    have HV2 := Lib.hid hr2
                    obtain ⟨A2, d2, rfl, _⟩ := hr2
                    have hr2 := HV2.out
                    rw [bitsL_len] at hr2 ⊢
                    clear HV2
                    have HR2 := Lib.hid hr2
                    have HB2 : Hid (Below w.heap.size w w2) := HB.out.trans (hb2.mono hzw)
                    have HBx2 := Lib.hid hb2
                    clear hr2 hb2
                    go_wp2_with fail
                    refine (HCM.out s w2 _ d2 ((HR.out.below HB2.out (Nat.le_refl _)).more HB2.out.size) HR2.out.reads.1).mono ?_
                    rintro e w3 ⟨rfl, hb3⟩
                    have HR3 := Lib.hid (HR2.out.below hb3)
                    have HB3 : Hid (Below w.heap.size w w3) := HB2.out.trans (hb3.mono HB2.out.size)
                    have HBx3 : Hid (Below wr.heap.size wr w3) := HBx2.out.trans (hb3.mono HBx2.out.size)
                    clear hb3
                    rw [HCO.out]
                    go_wp2_with fail
                    refine (HSP.out s w3 _ d2 ((HR.out.below HB3.out (Nat.le_refl _)).more HB3.out.size) HR3.out.reads.1).mono ?_
                    rintro e w4 ⟨rfl, hb4⟩
                    have HR4 := Lib.hid (HR3.out.below hb4)
                    have HB4 : Hid (Below w.heap.size w w4) := HB3.out.trans (hb4.mono HB3.out.size)
                    have HBx4 : Hid (Below wr.heap.size wr w4) := HBx3.out.trans (hb4.mono HBx3.out.size)
                    clear hb4
                    rw [HSE.out]
                    try rw [HCB.out]
                    have HRB4 := Lib.hid (HRB.out.below HBx4.out)
                    have HRN4 := HR4
                    have HRBN := HRB4
                    go_wp2_with fail
                    refine ⟨⟨s + 1, by go_num, by omega, .inr ⟨b, Ab, cb, HNEW.out, by omega, rfl, by rw [HCB.out], HRBN.out⟩, HB4⟩, by simp [intOf]; omega⟩
        · obtain rfl : s = NN := by omega
          rcases HC.out with ⟨hb, ⟨A8, c8, rfl⟩, rfl⟩ | ⟨b, Ab, cb, hb, hbs, rfl, rfl, hrb⟩
          · have hno : cmtO xs L sp = none := cmtO_none (by rw [HNN.out]; exact hb)
            have HNO := Lib.hid hno; clear hno hb
            go_wp2_with fail
            go_ret2
            rw [HNO.out]
            exact ⟨_, rfl, Res.empty rfl rfl, HB.out⟩
          · have hno := cmtO_some ⟨hv, hsp⟩ (by rw [HNN.out]; exact hb)
            have hb0 : 0 ≤ comS xs L b := by
              rcases bestF_bd xs L sp s with h | ⟨b', h, _, h0, _⟩
              · rw [hb] at h; omega
              · have : b' = b := by rw [hb] at h; omega
                subst this; exact h0
            have HNO := Lib.hid hno; have HRB := Lib.hid hrb; clear hno hb hrb
            go_wp2_with fail
            go_ret2
            rw [HNO.out]
            exact ⟨_, rfl, HRB.out, HB.out⟩
    · rw [cmtO_off (fun h => hsp h.2)]
      have hsp' : sp < 0 := by omega
      clear hsp hu
      go_enter Tryd.func54, Tryd.ntmps54
      go_wp2_with fail; ((with_reducible refine (specUnitsValid_any A c xs _ HRa.out hl).mono ?_); rintro e w1 ⟨rfl, hb_2⟩); have hz_2 := hb_2.size; (try simp only [World.size_alloc, World.size_setCell, World.size_drew] at hz_2)
      go_wp2
      go_ret2
      refine ⟨_, rfl, Res.empty rfl rfl, ?_⟩; (repeat' (first | (with_reducible exact Below.refl _ _) | (with_reducible refine Below.alloc ?_ ?_ _) | (with_reducible refine Below.setCell ?_ ?_ _) | (with_reducible refine Below.drew ?_) | (refine Below.trans ?_ (Below.mono (by with_reducible assumption) ?_)) | go_size))
  · have hv := unisV_f.2 hu
    rw [cmtO_off (fun h => hu (unisV_t.1 h.1))]
    clear hu
    go_enter Tryd.func54, Tryd.ntmps54
    go_wp2_with fail; ((with_reducible refine (specUnitsValid_any A c xs _ HRa.out hl).mono ?_); rintro e w1 ⟨rfl, hb_3⟩); have hz_3 := hb_3.size; (try simp only [World.size_alloc, World.size_setCell, World.size_drew] at hz_3)
    go_wp2
    go_ret2
    refine ⟨_, rfl, Res.empty rfl rfl, ?_⟩; (repeat' (first | (with_reducible exact Below.refl _ _) | (with_reducible refine Below.alloc ?_ ?_ _) | (with_reducible refine Below.setCell ?_ ?_ _) | (with_reducible refine Below.drew ?_) | (refine Below.trans ?_ (Below.mono (by with_reducible assumption) ?_)) | go_size))
end Go.Proofs.YtcpopbkcphpdfaaDoor
