/- Drawing leaks (spec.l20Leaks). -/
import Derived.Test.YtdfgdeccejcpfaaDoorRad
import Derived.Test.YtdfgdeccejcpfaaDoorPkS
namespace Go.Proofs.YtdfgdeccejcpfaaDoor
open Go.RowKit Go.Deep
set_option linter.unusedSimpArgs false
set_option linter.unusedVariables false

set_option maxRecDepth 100000 in
set_option maxHeartbeats 8000000 in
theorem l20Leaks_any (g : Nat) (P n : Int) (A : Option Addr) (m cp : Nat) (w : World) (hr : RdOk 83 w g P) (hP : P ≤ 800000) (hm : m ≤ 20) (hn : n ≤ 1000) (hn0 : 0 ≤ n) :
    Calls Tryd.prog 32 #[.pointer (some ⟨g, 0, none⟩), .slice A m cp, .int .i64 n] w fun e w' => ∃ v ys, e = .returned v ∧ ys.length ≤ 30 ∧ DrS 1 intC w' w.heap.size v ys ∧ RdOk 83 w' g (P + 60) ∧ Chg g w w' := by
  have hgl := hr.lt
  have HR := Lib.hid hr; clear hr
  have HO0 : Hid (Own 1 intC 3 (w.alloc (.cells #[] 3)) w.heap.size (.slice (some ⟨w.heap.size, 0, none⟩) 0 0) []) := Own.lit (k := 1) (c := intC) (B := w.heap.size) w 3 #[] 0 [] (Nat.le_refl _) rfl (by omega) rfl
  have HC0 := Lib.hid ((Chg.refl g w).alloc (.cells #[] 3))
  have HR0 := Lib.hid (HR.out.alloc (.cells #[] 3))
  have hmI : (m : Int) ≤ 20 := by omega
  go_enter Tryd.func32, Tryd.ntmps32
  go_wp2_with fail
  go_loopw [7, 8] (fun t7 t8 wr => ∃ (k : Nat) (ys : List Int), t8 = .int .i64 k ∧ k ≤ m ∧ Hid (ys.length = k) ∧ Hid (RdOk 83 wr g (P + 2 * k)) ∧ Hid (Chg g w wr) ∧ Hid (Own 1 intC 3 wr w.heap.size t7 ys)) (fun _ t8 _ => m - (intOf t8).toNat)
  case atStart => exact ⟨0, [], rfl, Nat.zero_le _, rfl, HR0.out.more (by omega), HC0, HO0⟩
  case round =>
    obtain ⟨k, ys, rfl, hk, HY, HR2, HC, HV⟩ := hrel
    clear HO0 HC0 HR0
    have hzw := HC.out.size
    have hgz : g < wr.heap.size := by omega
    obtain ⟨vA, vc, hvv⟩ := HV.out.slice
    generalize hll : ys.length = ll at hvv
    have HLL := Lib.hid hll; clear hll
    subst hvv
    have hyl : ys.length ≤ 20 := by have := HY.out; omega
    by_cases hlt : k < m
    · have hk1 : (k : Int) < (m : Int) := by omega
      go_wp2_with fail; ((with_reducible refine (pick_any g (P + 2 * k) 4 _ (HR2.out) (by omega) (by omega)).mono ?_); rintro e wa ⟨va, rfl, h0va, h1va, hr_wa, hc_wa⟩); have hz_wa := hc_wa.size; (try simp only [World.size_alloc, World.size_setCell, World.size_drew] at hz_wa); have HR_wa := Lib.hid hr_wa; have HC_wa := Lib.hid hc_wa; clear hr_wa hc_wa
      have HVa := Lib.hid (HV.out.chg HC_wa.out (by omega))
      have HCa := Lib.hid (HC.out.trans HC_wa.out)
      have hza := HCa.out.size
      have hga : g < wa.heap.size := by omega
      by_cases hv : va = 0
      · have e1 : (va == 0) = true := by simp [hv]
        clear hv
        go_wp2_with fail; ((with_reducible refine (pick_any g (P + 2 * k + 1) 30 _ (HR_wa.out) (by omega) (by omega)).mono ?_); rintro e wb ⟨vb, rfl, h0vb, h1vb, hr_wb, hc_wb⟩); have hz_wb := hc_wb.size; (try simp only [World.size_alloc, World.size_setCell, World.size_drew] at hz_wb); have HR_wb := Lib.hid hr_wb; have HC_wb := Lib.hid hc_wb; clear hr_wb hc_wb
        have HVb := Lib.hid (HVa.out.chg HC_wb.out (by omega))
        have HCb := Lib.hid (HCa.out.trans HC_wb.out)
        have hzb := HCb.out.size
        have HL_7 := Lib.hid (Own.lit (k := 1) (c := intC) (B := w.heap.size) wb 3 #[.int .i64 vb] 1 [(vb : Int)] (by first | exact Nat.le_refl _ | omega) rfl (by omega) rfl); have HQ_7 := Lib.hid (HL_7.out.reads rfl).1; have HV_7 := Lib.hid (Own.alloc (HVb.out) (.cells #[.int .i64 vb] 3)); have HK_7 := Lib.hid (Own.blk (HVb.out)); go_wp2_with (first | (at_builtin; refine wpList_app_g (k := 1) (c := intC) _ (by rfl) _ _ _ rfl 3 (.int .i64 0) 8 Tryd.underlying28 (by kernel_rfl) rfl (by decide) (by decide) intC_one _ _ _ rfl HV_7.out _ _ _ _ rfl HQ_7.out ?hm ?hlen ?hB ?_; (case hm => (first | rfl | (simp; done) | omega)); (case hlen => (simp only [List.length_cons, List.length_nil]; omega)); (case hB => ((try simp only [World.size_alloc, World.size_drew]); omega)); intro v_7 w_7 hown_7 hg_7 hat_7; have HW_7 : Hid (Below (w.heap.size) (wb) w_7) := (Below.alloc (Below.refl _ _) (by first | exact Nat.le_refl _ | omega) _).grown hg_7 (by (try simp only [World.size_alloc]); omega) (fun q hq => (HK_7.out q hq).1); have HG_7 := Lib.hid hg_7; have HAT_7 := Lib.hid hat_7; have HO_7 := Lib.hid hown_7; obtain ⟨A_7, c_7, hv_7⟩ := hown_7.slice; simp only [List.length_append, List.length_cons, List.length_nil, Nat.zero_add] at hv_7; subst hv_7; have hz_7 := HG_7.out.size; (try simp only [World.size_alloc] at hz_7); clear hown_7 hg_7 hat_7 HL_7 HQ_7 HV_7))
        have HC7 := Lib.hid ((HCb.out.alloc _).grown HG_7.out (fun q hq => (HK_7.out q hq).1))
        have HR7 := Lib.hid ((HR_wb.out.alloc (.cells #[.int .i64 vb] 3)).grown HG_7.out (fun q hq => by have := (HK_7.out q hq).1; omega))
        exact ⟨⟨k + 1, _, by go_num, by omega, by have := HY.out; unfold Hid; simp; omega, HR7.out.more (by omega), HC7, HO_7⟩, by simp [intOf]; omega⟩
      · have e1 : (va == 0) = false := by simp [hv]
        clear hv
        have HL_7 := Lib.hid (Own.lit (k := 1) (c := intC) (B := w.heap.size) wa 3 #[.int .i64 0] 1 [(0 : Int)] (by first | exact Nat.le_refl _ | omega) rfl (by omega) rfl); have HQ_7 := Lib.hid (HL_7.out.reads rfl).1; have HV_7 := Lib.hid (Own.alloc (HVa.out) (.cells #[.int .i64 0] 3)); have HK_7 := Lib.hid (Own.blk (HVa.out)); go_wp2_with (first | (at_builtin; refine wpList_app_g (k := 1) (c := intC) _ (by rfl) _ _ _ rfl 3 (.int .i64 0) 8 Tryd.underlying28 (by kernel_rfl) rfl (by decide) (by decide) intC_one _ _ _ rfl HV_7.out _ _ _ _ rfl HQ_7.out ?hm ?hlen ?hB ?_; (case hm => (first | rfl | (simp; done) | omega)); (case hlen => (simp only [List.length_cons, List.length_nil]; omega)); (case hB => ((try simp only [World.size_alloc, World.size_drew]); omega)); intro v_7 w_7 hown_7 hg_7 hat_7; have HW_7 : Hid (Below (w.heap.size) (wa) w_7) := (Below.alloc (Below.refl _ _) (by first | exact Nat.le_refl _ | omega) _).grown hg_7 (by (try simp only [World.size_alloc]); omega) (fun q hq => (HK_7.out q hq).1); have HG_7 := Lib.hid hg_7; have HAT_7 := Lib.hid hat_7; have HO_7 := Lib.hid hown_7; obtain ⟨A_7, c_7, hv_7⟩ := hown_7.slice; simp only [List.length_append, List.length_cons, List.length_nil, Nat.zero_add] at hv_7; subst hv_7; have hz_7 := HG_7.out.size; (try simp only [World.size_alloc] at hz_7); clear hown_7 hg_7 hat_7 HL_7 HQ_7 HV_7))
        have HC7 := Lib.hid ((HCa.out.alloc _).grown HG_7.out (fun q hq => (HK_7.out q hq).1))
        have HR7 := Lib.hid ((HR_wa.out.alloc (.cells #[.int .i64 0] 3)).grown HG_7.out (fun q hq => by have := (HK_7.out q hq).1; omega))
        exact ⟨⟨k + 1, _, by go_num, by omega, by have := HY.out; unfold Hid; simp; omega, HR7.out.more (by omega), HC7, HO_7⟩, by simp [intOf]; omega⟩
    · have hodd := odd_any g (P + 2 * k) n wr HR2.out (by omega) (by omega) hn0
      go_wp2_with fail
      refine hodd.mono ?_
      clear hodd
      rintro e w2 ⟨bo, rfl, hr2, hc2⟩
      have HRa : Hid (RdOk 83 w2 g (P + 41)) := hr2.more (by omega)
      have HV1 := Lib.hid (HV.out.chg hc2 (by omega))
      have HCW : Hid (Chg g w w2) := HC.out.trans hc2
      have hzw1 := HCW.out.size
      clear hr2 hc2
      cases bo with
      | false =>
        go_wp2_with fail
        go_ret
        exact ⟨_, ys, rfl, by omega, HV1.out.drs, HRa.out.more (by omega), HCW.out⟩
      | true =>
        have hgz2 : g < w2.heap.size := by omega
        by_cases hl0 : ll = 0
        · subst hl0
          have HL_7 := Lib.hid (Own.lit (k := 1) (c := intC) (B := w.heap.size) w2 3 #[.int .i64 0] 1 [(0 : Int)] (by first | exact Nat.le_refl _ | omega) rfl (by omega) rfl); have HQ_7 := Lib.hid (HL_7.out.reads rfl).1; have HV_7 := Lib.hid (Own.alloc (HV1.out) (.cells #[.int .i64 0] 3)); have HK_7 := Lib.hid (Own.blk (HV1.out)); go_wp2_with (first | (at_builtin; refine wpList_app_g (k := 1) (c := intC) _ (by rfl) _ _ _ rfl 3 (.int .i64 0) 8 Tryd.underlying28 (by kernel_rfl) rfl (by decide) (by decide) intC_one _ _ _ rfl HV_7.out _ _ _ _ rfl HQ_7.out ?hm ?hlen ?hB ?_; (case hm => (first | rfl | (simp; done) | omega)); (case hlen => (simp only [List.length_cons, List.length_nil]; omega)); (case hB => ((try simp only [World.size_alloc, World.size_drew]); omega)); intro v_7 w_7 hown_7 hg_7 hat_7; have HW_7 : Hid (Below (w.heap.size) (w2) w_7) := (Below.alloc (Below.refl _ _) (by first | exact Nat.le_refl _ | omega) _).grown hg_7 (by (try simp only [World.size_alloc]); omega) (fun q hq => (HK_7.out q hq).1); have HG_7 := Lib.hid hg_7; have HAT_7 := Lib.hid hat_7; have HO_7 := Lib.hid hown_7; obtain ⟨A_7, c_7, hv_7⟩ := hown_7.slice; simp only [List.length_append, List.length_cons, List.length_nil, Nat.zero_add] at hv_7; subst hv_7; have hz_7 := HG_7.out.size; (try simp only [World.size_alloc] at hz_7); clear hown_7 hg_7 hat_7 HL_7 HQ_7 HV_7))
          have HC7 := Lib.hid ((HCW.out.alloc _).grown HG_7.out (fun q hq => (HK_7.out q hq).1))
          have HR7 := Lib.hid ((HRa.out.alloc (.cells #[.int .i64 0] 3)).grown HG_7.out (fun q hq => by have := (HK_7.out q hq).1; omega))
          go_ret
          exact ⟨_, _, rfl, by simp; omega, HO_7.out.drs, HR7.out.more (by omega), HC7.out⟩
        · have hl1n : 0 < ll := by omega
          have hl1 : (0 : Int) < (ll : Int) := by omega
          have hl2 : decide ((0 : Int) < (ll : Int)) = true := by simp; omega
          have hl3 : decide (0 < ll) = true := by simp; omega
          go_wp2_with fail; ((with_reducible refine (pick_any g (P + 41) 2 _ (HRa.out) (by omega) (by omega)).mono ?_); rintro e w3 ⟨v3, rfl, h0v3, h1v3, hr_w3, hc_w3⟩); have hz_w3 := hc_w3.size; (try simp only [World.size_alloc, World.size_setCell, World.size_drew] at hz_w3); have HR_w3 := Lib.hid hr_w3; have HC_w3 := Lib.hid hc_w3; clear hr_w3 hc_w3
          have HV3 := Lib.hid (HV1.out.chg HC_w3.out (by omega))
          have HC3 := Lib.hid (HCW.out.trans HC_w3.out)
          have hzw3 := HC3.out.size
          have hgz3 : g < w3.heap.size := by omega
          by_cases hv : v3 = 0
          · have e1 : (v3 == 0) = true := by simp [hv]
            clear hv
            have hy0 : 0 < ys.length := by rw [HLL.out]; omega
            obtain ⟨gv, hgvA, hgv, hgvz, _, _⟩ := HV3.out.at1 hy0
            subst hgvA
            go_wp2_with fail; ((with_reducible refine (pick_any g (P + 41 + 1) 3 _ (HR_w3.out.alloc _) (by omega) (by omega)).mono ?_); rintro e w4 ⟨v4, rfl, h0v4, h1v4, hr_w4, hc_w4⟩); have hz_w4 := hc_w4.size; (try simp only [World.size_alloc, World.size_setCell, World.size_drew] at hz_w4); have HR_w4 := Lib.hid hr_w4; have HC_w4 := Lib.hid hc_w4; clear hr_w4 hc_w4
            have HLT : Hid (Bk w4 w3.heap.size 3 #[.int .i64 (-1), .int .i64 1000, .int .i64 999]) := HC_w4.out.bk (Bk.new _ _ _) (by omega)
            have HV4 := Lib.hid ((HV3.out.alloc (.cells #[.int .i64 (-1), .int .i64 1000, .int .i64 999] 3)).chg HC_w4.out (by omega))
            have HC4 := Lib.hid ((HC3.out.alloc (.cells #[.int .i64 (-1), .int .i64 1000, .int .i64 999] 3)).trans HC_w4.out)
            obtain ⟨g', hge, _, hgz4, d0, df⟩ := HV4.out.at1 hy0
            injection hge with hge; injection hge with hge; subst hge
            have hzl := HLT.out.lt
            have l0 : w4.cell? ⟨w3.heap.size, 0, none⟩ = some (.int .i64 (-1)) := HLT.out.cell 0
            have l1 : w4.cell? ⟨w3.heap.size, 1, none⟩ = some (.int .i64 1000) := HLT.out.cell 1
            have l2 : w4.cell? ⟨w3.heap.size, 2, none⟩ = some (.int .i64 999) := HLT.out.cell 2
            have hv3 : v4 = 0 ∨ v4 = 1 ∨ v4 = 2 := by omega
            clear h0v4 h1v4 HC_w4
            obtain ⟨d, hd⟩ : ∃ d, intC ys[0] 0 = d := ⟨_, rfl⟩
            rw [hd] at d0
            clear hd
            rcases hv3 with rfl | rfl | rfl
            all_goals
              go_wp2_with fail
              go_ret
              exact ⟨_, _, rfl, by rw [List.length_set]; omega, (HV4.out.set1 hy0 _).drs, (HR_w4.out.set_new (by omega) _).more (by omega), HC4.out.set_new hgv _⟩
          · have e1 : (v3 == 0) = false := by simp [hv]
            clear hv
            have HL_7 := Lib.hid (Own.lit (k := 1) (c := intC) (B := w.heap.size) w3 3 #[.int .i64 0] 1 [(0 : Int)] (by first | exact Nat.le_refl _ | omega) rfl (by omega) rfl); have HQ_7 := Lib.hid (HL_7.out.reads rfl).1; have HV_7 := Lib.hid (Own.alloc (HV3.out) (.cells #[.int .i64 0] 3)); have HK_7 := Lib.hid (Own.blk (HV3.out)); go_wp2_with (first | (at_builtin; refine wpList_app_g (k := 1) (c := intC) _ (by rfl) _ _ _ rfl 3 (.int .i64 0) 8 Tryd.underlying28 (by kernel_rfl) rfl (by decide) (by decide) intC_one _ _ _ rfl HV_7.out _ _ _ _ rfl HQ_7.out ?hm ?hlen ?hB ?_; (case hm => (first | rfl | (simp; done) | omega)); (case hlen => (simp only [List.length_cons, List.length_nil]; omega)); (case hB => ((try simp only [World.size_alloc, World.size_drew]); omega)); intro v_7 w_7 hown_7 hg_7 hat_7; have HW_7 : Hid (Below (w.heap.size) (w3) w_7) := (Below.alloc (Below.refl _ _) (by first | exact Nat.le_refl _ | omega) _).grown hg_7 (by (try simp only [World.size_alloc]); omega) (fun q hq => (HK_7.out q hq).1); have HG_7 := Lib.hid hg_7; have HAT_7 := Lib.hid hat_7; have HO_7 := Lib.hid hown_7; obtain ⟨A_7, c_7, hv_7⟩ := hown_7.slice; simp only [List.length_append, List.length_cons, List.length_nil, Nat.zero_add] at hv_7; subst hv_7; have hz_7 := HG_7.out.size; (try simp only [World.size_alloc] at hz_7); clear hown_7 hg_7 hat_7 HL_7 HQ_7 HV_7))
            have HC7 := Lib.hid ((HC3.out.alloc _).grown HG_7.out (fun q hq => (HK_7.out q hq).1))
            have HR7 := Lib.hid ((HR_w3.out.alloc (.cells #[.int .i64 0] 3)).grown HG_7.out (fun q hq => by have := (HK_7.out q hq).1; omega))
            go_ret
            exact ⟨_, _, rfl, by simp; omega, HO_7.out.drs, HR7.out.more (by omega), HC7.out⟩
end Go.Proofs.YtdfgdeccejcpfaaDoor
