/- Drawing blocks. -/
import Derived.Test.YtecekhjlapaofaaDoorDrL
namespace Go.Proofs.YtecekhjlapaofaaDoor
open Go.RowKit Go.Deep
set_option linter.unusedSimpArgs false
set_option linter.unusedVariables false

def SmB (x : R2) : Prop := 0 ≤ x.a ∧ x.a ≤ 30 ∧ 0 ≤ x.b ∧ x.b ≤ 10
/-- Blocks of small numbers were drawn. -/
def DrawnB (g : Nat) (P : Int) (w : World) (e : Ending) (w' : World) : Prop :=
  ∃ v xs, e = .returned v ∧ xs.length ≤ 9 ∧ (∀ x ∈ xs, SmB x) ∧ DrS 2 r2C w' w.heap.size v xs ∧ RdOk 71 w' g (P + 40) ∧ Chg g w w'

set_option maxRecDepth 100000 in
set_option maxHeartbeats 8000000 in
theorem l20Blocks_any (g : Nat) (P n : Int) (w : World) (hr : RdOk 71 w g P) (hP : P ≤ 900000) (hn : n ≤ 1000) (hn0 : 0 ≤ n) :
    Calls Tryd.prog 32 #[.pointer (some ⟨g, 0, none⟩), .int .i64 n] w (DrawnB g P w) := by
  have hgl := hr.lt
  have HR := Lib.hid hr; clear hr
  have hmk := fun W => run_mk (P := Tryd.prog) 23 33 (.agg (Array.replicate 2 (.int .i64 0))) 2 16 9 Tryd.underlying23 (by kernel_rfl) (by omega) (by omega) W
  have HMK := Lib.hid hmk; clear hmk
  go_enter Tryd.func32, Tryd.ntmps32
  go_wp2_with fail; ((with_reducible refine (pick_any g (P) 9 _ (HR.out.alloc _) (by omega) (by omega)).mono ?_); rintro e w1 ⟨k0, rfl, h0k0, h1k0, hr_w1, hc_w1⟩); have cB0_w1 := Chg.cell hc_w1 (b := w.heap.size) (by go_size) (by omega); have fB0_w1 := Chg.frozen hc_w1 (b := w.heap.size) (by go_size) (by omega); have zB0_w1 : w.heap.size < w1.heap.size := Nat.lt_of_lt_of_le (by go_size) hc_w1.size; have hz_w1 := hc_w1.size; (try simp only [World.size_alloc, World.size_setCell, World.size_drew] at hz_w1); have HR_w1 := Lib.hid hr_w1; have HC_w1 := Lib.hid hc_w1; clear hr_w1 hc_w1
  have HO : Hid (Own 2 r2C 33 w1 w.heap.size (.slice (some ⟨w.heap.size, 0, none⟩) 0 0) []) := by
    unfold Hid
    exact (Own.lit (k := 2) (c := r2C) (B := w.heap.size) w 33 #[] 0 [] (Nat.le_refl _) rfl (by omega) rfl).chg HC_w1.out hgl
  have HC0 := Lib.hid (((Chg.refl g w).alloc _).trans HC_w1.out)
  clear cB0_w1 fB0_w1 zB0_w1 HC_w1
  go_wp2_with fail
  go_loopw [5, 6] (fun t u wr => ∃ (k : Int) (xs : List R2), u = .int .i64 k ∧ 0 ≤ k ∧ k ≤ 8 ∧ Hid ((xs.length : Int) + k ≤ 8 ∧ ∀ x ∈ xs, SmB x) ∧ Hid (RdOk 71 wr g (P + 25 - 2 * k)) ∧ Hid (Chg g w wr) ∧ Hid (Own 2 r2C 33 wr w.heap.size t xs)) (fun _ u _ => (intOf u).toNat)
  case atStart => exact ⟨k0, [], rfl, h0k0, by omega, ⟨by simp; omega, by simp⟩, HR_w1.out.more (by omega), HC0, HO⟩
  case round =>
    obtain ⟨k, xs, rfl, hk0, hk1, HX, HR2, HC, HV⟩ := hrel
    clear HO HC0 HR_w1 hz_w1
    have hzw := HC.out.size
    have hgz : g < wr.heap.size := by omega
    obtain ⟨vA, vc, hvv⟩ := HV.out.slice
    have HXL := Lib.hid HX.out.1
    generalize hll : xs.length = ll at hvv HXL
    have HLL := Lib.hid hll; clear hll
    have hxl : xs.length ≤ 8 := by have := HLL.out; have := HXL.out; omega
    subst hvv
    by_cases hk : 0 < k
    · go_wp2_with fail; ((with_reducible refine (pick_any g (P + 25 - 2 * k) 30 _ (HR2.out) (by omega) (by omega)).mono ?_); rintro e wa ⟨v1, rfl, h0v1, h1v1, hr_wa, hc_wa⟩); have hz_wa := hc_wa.size; (try simp only [World.size_alloc, World.size_setCell, World.size_drew] at hz_wa); have HR_wa := Lib.hid hr_wa; have HC_wa := Lib.hid hc_wa; clear hr_wa hc_wa
      go_wp2_with fail; ((with_reducible refine (pick_any g (P + 25 - 2 * k + 1) 5 _ (HR_wa.out) (by omega) (by omega)).mono ?_); rintro e wb ⟨v2, rfl, h0v2, h1v2, hr_wb, hc_wb⟩); have hz_wb := hc_wb.size; (try simp only [World.size_alloc, World.size_setCell, World.size_drew] at hz_wb); have HR_wb := Lib.hid hr_wb; have HC_wb := Lib.hid hc_wb; clear hr_wb hc_wb
      have HCE : Hid (Chg g wr wb) := HC_wa.out.trans HC_wb.out
      clear HC_wa HC_wb HR_wa
      have HV1 := Lib.hid (HV.out.chg HCE.out (by omega))
      have HCW : Hid (Chg g w wb) := HC.out.trans HCE.out
      have hzw1 := HCW.out.size
      have HL_7 := Lib.hid (Own.lit (k := 2) (c := r2C) (B := w.heap.size) wb 33 #[.int .i64 (1 + v1), .int .i64 v2] 1 [(⟨1 + v1, v2⟩ : R2)] (by first | exact Nat.le_refl _ | omega) rfl (by omega) rfl); have HQ_7 := Lib.hid (HL_7.out.reads rfl).1; have HV_7 := Lib.hid (Own.alloc (HV1.out) (.cells #[.int .i64 (1 + v1), .int .i64 v2] 33)); have HK_7 := Lib.hid (Own.blk (HV1.out)); go_wp2_with (first | (at_builtin; refine wpList_app_g (k := 2) (c := r2C) _ (by rfl) _ _ _ rfl 33 (.agg (Array.replicate 2 (.int .i64 0))) 16 Tryd.underlying23 (by kernel_rfl) rfl (by decide) (by decide) r2C_one _ _ _ rfl HV_7.out _ _ _ _ rfl HQ_7.out ?hm ?hlen ?hB ?_; (case hm => (first | rfl | (simp; done) | omega)); (case hlen => (simp only [List.length_cons, List.length_nil]; omega)); (case hB => ((try simp only [World.size_alloc, World.size_drew]); omega)); intro v_7 w_7 hown_7 hg_7 hat_7; have HW_7 : Hid (Below (w.heap.size) (wb) w_7) := (Below.alloc (Below.refl _ _) (by first | exact Nat.le_refl _ | omega) _).grown hg_7 (by (try simp only [World.size_alloc]); omega) (fun q hq => (HK_7.out q hq).1); have HG_7 := Lib.hid hg_7; have HAT_7 := Lib.hid hat_7; have HO_7 := Lib.hid hown_7; obtain ⟨A_7, c_7, hv_7⟩ := hown_7.slice; simp only [List.length_append, List.length_cons, List.length_nil, Nat.zero_add] at hv_7; subst hv_7; have hz_7 := HG_7.out.size; (try simp only [World.size_alloc] at hz_7); clear hown_7 hg_7 hat_7 HL_7 HQ_7 HV_7))
      have HC5 := Lib.hid ((HCW.out.alloc _).grown HG_7.out (fun q hq => (HK_7.out q hq).1))
      have HR5 := Lib.hid ((HR_wb.out.alloc (.cells #[.int .i64 (1 + v1), .int .i64 v2] 33)).grown HG_7.out (fun q hq => by have := (HK_7.out q hq).1; omega))
      refine ⟨⟨k - 1, _, by go_num, by omega, by omega, ⟨?_, fun x hx => ?_⟩, HR5.out.more (by omega), HC5, HO_7⟩, by simp [intOf]; omega⟩
      · have := HLL.out; have := HXL.out; simp; omega
      · rcases List.mem_append.1 hx with hx | hx
        · exact HX.out.2 x hx
        · simp at hx; subst hx
          unfold SmB; simp only; omega
    · have hk' : k ≤ 0 := by omega
      have hodd := odd_any g (P + 25 - 2 * k) n wr HR2.out (by omega) (by omega) hn0
      go_wp2_with fail
      refine hodd.mono ?_
      clear hodd
      rintro e w2 ⟨bo, rfl, hr2, hc2⟩
      have HRa := Lib.hid hr2
      have HV1 := Lib.hid (HV.out.chg hc2 (by omega))
      have HCW : Hid (Chg g w w2) := HC.out.trans hc2
      have hzw1 := HCW.out.size
      clear hr2 hc2
      cases bo with
      | false =>
        go_wp2_with fail
        go_ret
        exact ⟨_, xs, rfl, by omega, HX.out.2, HV1.out.drs, HRa.out.more (by omega), HCW.out⟩
      | true =>
        have hgz2 : g < w2.heap.size := by omega
        go_wp2_with fail; ((with_reducible refine (pick_any g (P + 25 - 2 * k + 1) 3 _ (HRa.out) (by omega) (by omega)).mono ?_); rintro e w3 ⟨v1, rfl, h0v1, h1v1, hr_w3, hc_w3⟩); have hz_w3 := hc_w3.size; (try simp only [World.size_alloc, World.size_setCell, World.size_drew] at hz_w3); have HR_w3 := Lib.hid hr_w3; have HC_w3 := Lib.hid hc_w3; clear hr_w3 hc_w3
        have HV2 := Lib.hid (HV1.out.chg HC_w3.out (by omega))
        have HCX : Hid (Chg g w w3) := HCW.out.trans HC_w3.out
        have hzw3 := HCX.out.size
        have hv4 : v1 = 0 ∨ v1 = 1 ∨ v1 = 2 := by omega
        rcases hv4 with rfl | rfl | rfl
        · have hmk := HMK.out
          have HRow := Lib.hid (row_made w3 2 (by omega) (9 * 2) 33)
          have HC7 := Lib.hid (HCX.out.alloc (.cells (madeCells (Array.replicate 2 (Value.int .i64 0)) (9 * 2)) 33))
          have HR7 := Lib.hid (HR_w3.out.alloc (.cells (madeCells (Array.replicate 2 (Value.int .i64 0)) (9 * 2)) 33))
          generalize hmc : madeCells (Array.replicate 2 (Value.int .i64 0)) (9 * 2) = mc at HRow HC7 HR7
          have hmk2 : ∀ W : World, (Instr.makeSlice 23 (.int .i64 9) (.int .i64 9)).run Tryd.prog W = .ok (.slice (some ⟨W.heap.size, 0, none⟩) 9 9) (W.alloc (.cells mc 33)) := fun W => by rw [← hmc]; exact hmk W
          clear hmk hmc HMK
          go_wp2_with fail
          go_ret
          refine ⟨_, List.replicate 9 ⟨0, 0⟩, rfl, by simp, fun x hx => ?_, ?_, HR7.out.more (by omega), HC7.out⟩
          · have := (List.mem_replicate.1 hx).2; subst this; unfold SmB; simp only; omega
          · refine ⟨_, _, rfl, by simp, by omega, .inr ⟨_, _, rfl, by omega, by simp, fun i x hx j hj => ?_⟩⟩
            have e : x = ⟨0, 0⟩ := (List.mem_replicate.1 (List.mem_of_getElem? hx)).2
            obtain ⟨hi, _⟩ := getElem?_of_lt hx
            simp at hi
            subst e
            rw [Nat.zero_add, HRow.out.cell (by omega)]
            unfold r2C
            split <;> rfl
        · have HL := Lib.hid (Own.lit (k := 2) (c := r2C) (B := w.heap.size) w3 33 #[.int .i64 0, .int .i64 1] 1 [(⟨0, 1⟩ : R2)] hzw3 rfl (by omega) rfl)
          have HQ := Lib.hid ((HV2.out.alloc (.cells #[.int .i64 0, .int .i64 1] 33)).reads rfl).1
          have HKL := Lib.hid HL.out.blk
          go_wp2_with (first | (at_builtin; refine wpList_app_g (k := 2) (c := r2C) _ (by rfl) _ _ _ rfl 33 (.agg (Array.replicate 2 (.int .i64 0))) 16 Tryd.underlying23 (by kernel_rfl) rfl (by decide) (by decide) r2C_one _ _ _ rfl HL.out _ _ _ _ rfl HQ.out ?hm ?hlen ?hB ?_; (case hm => exact HLL.out.symm); (case hlen => (simp only [List.length_cons, List.length_nil]; omega)); (case hB => (simp only [World.size_alloc]; omega)); intro v5 w5 hown5 hg5 hat5; have HC5 := Lib.hid ((HCX.out.alloc _).grown hg5 (fun q hq => (HKL.out q hq).1)); have HR5 := Lib.hid ((HR_w3.out.alloc (.cells #[.int .i64 0, .int .i64 1] 33)).grown hg5 (fun q hq => by have := (HKL.out q hq).1; omega)); have HO5 := Lib.hid hown5; clear hown5 hg5 hat5))
          go_ret
          refine ⟨_, _, rfl, ?_, fun x hx => ?_, HO5.out.drs, HR5.out.more (by omega), HC5.out⟩
          · simp; omega
          · rcases List.mem_append.1 hx with hx | hx
            · simp at hx; subst hx
              unfold SmB; simp only; omega
            · exact HX.out.2 x hx
        · have HL := Lib.hid (Own.lit (k := 2) (c := r2C) (B := w.heap.size) w3 33 #[.int .i64 5, .int .i64 10] 1 [(⟨5, 10⟩ : R2)] hzw3 rfl (by omega) rfl)
          have HQ := Lib.hid ((HV2.out.alloc (.cells #[.int .i64 5, .int .i64 10] 33)).reads rfl).1
          have HKL := Lib.hid HL.out.blk
          go_wp2_with (first | (at_builtin; refine wpList_app_g (k := 2) (c := r2C) _ (by rfl) _ _ _ rfl 33 (.agg (Array.replicate 2 (.int .i64 0))) 16 Tryd.underlying23 (by kernel_rfl) rfl (by decide) (by decide) r2C_one _ _ _ rfl HL.out _ _ _ _ rfl HQ.out ?hm ?hlen ?hB ?_; (case hm => exact HLL.out.symm); (case hlen => (simp only [List.length_cons, List.length_nil]; omega)); (case hB => (simp only [World.size_alloc]; omega)); intro v5 w5 hown5 hg5 hat5; have HC5 := Lib.hid ((HCX.out.alloc _).grown hg5 (fun q hq => (HKL.out q hq).1)); have HR5 := Lib.hid ((HR_w3.out.alloc (.cells #[.int .i64 5, .int .i64 10] 33)).grown hg5 (fun q hq => by have := (HKL.out q hq).1; omega)); have HO5 := Lib.hid hown5; clear hown5 hg5 hat5))
          go_ret
          refine ⟨_, _, rfl, ?_, fun x hx => ?_, HO5.out.drs, HR5.out.more (by omega), HC5.out⟩
          · simp; omega
          · rcases List.mem_append.1 hx with hx | hx
            · simp at hx; subst hx
              unfold SmB; simp only; omega
            · exact HX.out.2 x hx
end Go.Proofs.YtecekhjlapaofaaDoor
