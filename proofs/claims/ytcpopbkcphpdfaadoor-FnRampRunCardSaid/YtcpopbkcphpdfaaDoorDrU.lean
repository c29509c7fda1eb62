/- Drawing units. -/
import Derived.Test.YtcpopbkcphpdfaaDoorDrL
namespace Go.Proofs.YtcpopbkcphpdfaaDoor
open Go.RowKit Go.Deep
set_option linter.unusedSimpArgs false
set_option linter.unusedVariables false

def SmU (x : R4) : Prop := -1 ≤ x.a ∧ x.a ≤ 40 ∧ -1 ≤ x.b ∧ x.b ≤ 40 ∧ -1 ≤ x.c ∧ x.c ≤ 40 ∧ -1 ≤ x.d ∧ x.d ≤ 40
/-- Units of small numbers were drawn. -/
def DrawnU (g : Nat) (P : Int) (w : World) (e : Ending) (w' : World) : Prop :=
  ∃ v xs, e = .returned v ∧ xs.length ≤ 7 ∧ (∀ x ∈ xs, SmU x) ∧ DrS 4 r4C w' w.heap.size v xs ∧ RdOk 94 w' g (P + 40) ∧ Chg g w w'

set_option maxRecDepth 100000 in
set_option maxHeartbeats 8000000 in
theorem l20Units_any (g : Nat) (P n : Int) (w : World) (hr : RdOk 94 w g P) (hP : P ≤ 900000) (hn : n ≤ 1000) (hn0 : 0 ≤ n) :
    Calls Tryd.prog 58 #[.pointer (some ⟨g, 0, none⟩), .int .i64 n] w (DrawnU g P w) := by
  have hgl := hr.lt
  have HR := Lib.hid hr; clear hr
  have hmk := fun W => run_mk (P := Tryd.prog) 23 27 (.agg (Array.replicate 4 (.int .i64 0))) 4 32 7 Tryd.underlying23 (by kernel_rfl) (by omega) (by omega) W
  have HMK := Lib.hid hmk; clear hmk
  go_enter Tryd.func58, Tryd.ntmps58
  go_wp2_with fail; ((with_reducible refine (pick_any g (P) 6 _ (HR.out.alloc _) (by omega) (by omega)).mono ?_); rintro e w1 ⟨k0, rfl, h0k0, h1k0, hr_w1, hc_w1⟩); have cB0_w1 := Chg.cell hc_w1 (b := w.heap.size) (by go_size) (by omega); have fB0_w1 := Chg.frozen hc_w1 (b := w.heap.size) (by go_size) (by omega); have zB0_w1 : w.heap.size < w1.heap.size := Nat.lt_of_lt_of_le (by go_size) hc_w1.size; have hz_w1 := hc_w1.size; (try simp only [World.size_alloc, World.size_setCell, World.size_drew] at hz_w1); have HR_w1 := Lib.hid hr_w1; have HC_w1 := Lib.hid hc_w1; clear hr_w1 hc_w1
  have HO : Hid (Own 4 r4C 27 w1 w.heap.size (.slice (some ⟨w.heap.size, 0, none⟩) 0 0) []) := by
    unfold Hid
    exact (Own.lit (k := 4) (c := r4C) (B := w.heap.size) w 27 #[] 0 [] (Nat.le_refl _) rfl (by omega) rfl).chg HC_w1.out hgl
  have HC0 := Lib.hid (((Chg.refl g w).alloc _).trans HC_w1.out)
  clear cB0_w1 fB0_w1 zB0_w1 HC_w1
  go_wp2_with fail
  go_loopw [5, 6] (fun t u wr => ∃ (k : Int) (xs : List R4), u = .int .i64 k ∧ 0 ≤ k ∧ k ≤ 6 ∧ Hid ((xs.length : Int) + k ≤ 6 ∧ ∀ x ∈ xs, SmU x) ∧ Hid (RdOk 94 wr g (P + 25 - 4 * k)) ∧ Hid (Chg g w wr) ∧ Hid (Own 4 r4C 27 wr w.heap.size t xs)) (fun _ u _ => (intOf u).toNat)
  case atStart => exact ⟨k0, [], rfl, h0k0, by omega, ⟨by simp; omega, by simp⟩, HR_w1.out.more (by omega), HC0, HO⟩
  case round =>
    obtain ⟨k, xs, rfl, hk0, hk1, HX, HR2, HC, HV⟩ := hrel
    clear HO HC0 HR_w1 hz_w1
    have hzw := HC.out.size
    have hgz : g < wr.heap.size := by omega
    obtain ⟨vA, vc, hvv⟩ := HV.out.slice
    have HXL := Lib.hid HX.out.1
    generalize hll : xs.length = ll at hvv HXL
    have HLL := Lib.hid hll; clear hll
    subst hvv
    by_cases hk : 0 < k
    · go_wp2_with fail; ((with_reducible refine (pick_any g (P + 25 - 4 * k) 8 _ (HR2.out) (by omega) (by omega)).mono ?_); rintro e wa ⟨v1, rfl, h0v1, h1v1, hr_wa, hc_wa⟩); have hz_wa := hc_wa.size; (try simp only [World.size_alloc, World.size_setCell, World.size_drew] at hz_wa); have HR_wa := Lib.hid hr_wa; have HC_wa := Lib.hid hc_wa; clear hr_wa hc_wa
      go_wp2_with fail; ((with_reducible refine (pick_any g (P + 25 - 4 * k + 1) 25 _ (HR_wa.out) (by omega) (by omega)).mono ?_); rintro e wb ⟨v2, rfl, h0v2, h1v2, hr_wb, hc_wb⟩); have hz_wb := hc_wb.size; (try simp only [World.size_alloc, World.size_setCell, World.size_drew] at hz_wb); have HR_wb := Lib.hid hr_wb; have HC_wb := Lib.hid hc_wb; clear hr_wb hc_wb
      go_wp2_with fail; ((with_reducible refine (pick_any g (P + 25 - 4 * k + 1 + 1) 9 _ (HR_wb.out) (by omega) (by omega)).mono ?_); rintro e wd ⟨v3, rfl, h0v3, h1v3, hr_wd, hc_wd⟩); have hz_wd := hc_wd.size; (try simp only [World.size_alloc, World.size_setCell, World.size_drew] at hz_wd); have HR_wd := Lib.hid hr_wd; have HC_wd := Lib.hid hc_wd; clear hr_wd hc_wd
      go_wp2_with fail; ((with_reducible refine (pick_any g (P + 25 - 4 * k + 1 + 1 + 1) 40 _ (HR_wd.out) (by omega) (by omega)).mono ?_); rintro e we ⟨v4, rfl, h0v4, h1v4, hr_we, hc_we⟩); have hz_we := hc_we.size; (try simp only [World.size_alloc, World.size_setCell, World.size_drew] at hz_we); have HR_we := Lib.hid hr_we; have HC_we := Lib.hid hc_we; clear hr_we hc_we
      have HCE : Hid (Chg g wr we) := ((HC_wa.out.trans HC_wb.out).trans HC_wd.out).trans HC_we.out
      clear HC_wa HC_wb HC_wd HC_we HR_wa HR_wb HR_wd
      have HV1 := Lib.hid (HV.out.chg HCE.out (by omega))
      have HCW : Hid (Chg g w we) := HC.out.trans HCE.out
      have hzw1 := HCW.out.size
      have hblk := HV1.out.blk
      have HBLK := Lib.hid hblk; clear hblk
      have HL2 := Lib.hid (Own.lit (k := 4) (c := r4C) (B := w.heap.size) we 27 #[.int .i64 v1, .int .i64 (v1 + v2), .int .i64 (1 + v3), .int .i64 v4] 1 [(⟨v1, v1 + v2, 1 + v3, v4⟩ : R4)] hzw1 rfl (by omega) rfl)
      have HR3 := Lib.hid (HL2.out.reads rfl).1
      have HV3 := Lib.hid (HV1.out.alloc (.cells #[.int .i64 v1, .int .i64 (v1 + v2), .int .i64 (1 + v3), .int .i64 v4] 27))
      go_wp2_with (first
        | (at_builtin
           refine wpList_app (k := 4) (c := r4C) _ rfl _ _ _ rfl 27 (.agg (Array.replicate 4 (.int .i64 0))) 32 Tryd.underlying23 (by kernel_rfl) rfl (by decide) (by decide) r4C_one _ _ _ rfl HV3.out _ _ _ _ rfl HR3.out ?hm ?hlen ?hB ?_
           case hm => rfl
           case hlen => have := HLL.out; have := HXL.out; simp only [List.length_cons, List.length_nil]; omega
           case hB => rw [World.size_alloc]; omega
           intro v5 w5 hown5 hg5 hat5
           have HC5 := Lib.hid ((HCW.out.alloc _).grown hg5 (fun q hq => (HBLK.out q hq).1))
           have HR5 := Lib.hid ((HR_we.out.alloc (.cells #[.int .i64 v1, .int .i64 (v1 + v2), .int .i64 (1 + v3), .int .i64 v4] 27)).grown hg5 (fun q hq => by have := (HBLK.out q hq).1; omega))
           have HO5 := Lib.hid hown5
           clear hown5 hg5 hat5))
      refine ⟨⟨k - 1, _, by go_num, by omega, by omega, ⟨?_, fun x hx => ?_⟩, HR5.out.more (by omega), HC5, HO5⟩, by simp [intOf]; omega⟩
      · have := HLL.out; have := HXL.out; simp; omega
      · rcases List.mem_append.1 hx with hx | hx
        · exact HX.out.2 x hx
        · simp at hx; subst hx
          unfold SmU; simp only; omega
    · have hk' : k ≤ 0 := by omega
      have hodd := odd_any g (P + 25 - 4 * k) n wr HR2.out (by omega) (by omega) hn0
      go_wp2_with fail
      refine hodd.mono ?_
      clear hodd
      rintro e w2 ⟨bo, rfl, hr2, hc2⟩
      have HRa := Lib.hid hr2
      have HV1 := Lib.hid (HV.out.chg hc2 (by omega))
      have HCW : Hid (Chg g w w2) := HC.out.trans hc2
      have hzw1 := HCW.out.size
      clear hr2 hc2
      cases bo with
      | false =>
        go_wp2_with fail
        go_ret
        exact ⟨_, xs, rfl, by have := HLL.out; have := HXL.out; omega, HX.out.2, HV1.out.drs, HRa.out.more (by omega), HCW.out⟩
      | true =>
        have hgz2 : g < w2.heap.size := by omega
        go_wp2_with fail; ((with_reducible refine (pick_any g (P + 25 - 4 * k + 1) 4 _ (HRa.out) (by omega) (by omega)).mono ?_); rintro e w3 ⟨v1, rfl, h0v1, h1v1, hr_w3, hc_w3⟩); have hz_w3 := hc_w3.size; (try simp only [World.size_alloc, World.size_setCell, World.size_drew] at hz_w3); have HR_w3 := Lib.hid hr_w3; have HC_w3 := Lib.hid hc_w3; clear hr_w3 hc_w3
        have HV2 := Lib.hid (HV1.out.chg HC_w3.out (by omega))
        have HCX : Hid (Chg g w w3) := HCW.out.trans HC_w3.out
        have hzw3 := HCX.out.size
        have hblk := HV2.out.blk
        have HBLK := Lib.hid hblk; clear hblk
        have hv4 : v1 = 0 ∨ v1 = 1 ∨ v1 = 2 ∨ v1 = 3 := by omega
        rcases hv4 with rfl | rfl | rfl | rfl
        · have hmk := HMK.out
          have HRow := Lib.hid (row_made w3 4 (by omega) (7 * 4) 27)
          have HC7 := Lib.hid (HCX.out.alloc (.cells (madeCells (Array.replicate 4 (Value.int .i64 0)) (7 * 4)) 27))
          have HR7 := Lib.hid (HR_w3.out.alloc (.cells (madeCells (Array.replicate 4 (Value.int .i64 0)) (7 * 4)) 27))
          generalize hmc : madeCells (Array.replicate 4 (Value.int .i64 0)) (7 * 4) = mc at HRow HC7 HR7
          have hmk2 : ∀ W : World, (Instr.makeSlice 23 (.int .i64 7) (.int .i64 7)).run Tryd.prog W = .ok (.slice (some ⟨W.heap.size, 0, none⟩) 7 7) (W.alloc (.cells mc 27)) := fun W => by rw [← hmc]; exact hmk W
          clear hmk hmc HMK
          go_wp2_with fail
          go_ret
          refine ⟨_, List.replicate 7 ⟨0, 0, 0, 0⟩, rfl, by simp, fun x hx => ?_, ?_, HR7.out.more (by omega), HC7.out⟩
          · have := (List.mem_replicate.1 hx).2; subst this; unfold SmU; simp only; omega
          · refine ⟨_, _, rfl, by simp, by omega, .inr ⟨_, _, rfl, by omega, by simp, fun i x hx j hj => ?_⟩⟩
            have e : x = ⟨0, 0, 0, 0⟩ := (List.mem_replicate.1 (List.mem_of_getElem? hx)).2
            obtain ⟨hi, _⟩ := getElem?_of_lt hx
            simp at hi
            subst e
            rw [Nat.zero_add, HRow.out.cell (by omega)]
            unfold r4C
            split
            · rfl
            · split
              · rfl
              · split <;> rfl
        · have HL2 := Lib.hid (Own.lit (k := 4) (c := r4C) (B := w.heap.size) w3 27 #[.int .i64 5, .int .i64 4, .int .i64 1, .int .i64 0] 1 [(⟨5, 4, 1, 0⟩ : R4)] hzw3 rfl (by omega) rfl)
          have HR3 := Lib.hid (HL2.out.reads rfl).1
          have HV3 := Lib.hid (HV2.out.alloc (.cells #[.int .i64 5, .int .i64 4, .int .i64 1, .int .i64 0] 27))
          go_wp2_with (first
            | (at_builtin
               refine wpList_app (k := 4) (c := r4C) _ rfl _ _ _ rfl 27 (.agg (Array.replicate 4 (.int .i64 0))) 32 Tryd.underlying23 (by kernel_rfl) rfl (by decide) (by decide) r4C_one _ _ _ rfl HV3.out _ _ _ _ rfl HR3.out ?hm ?hlen ?hB ?_
               case hm => rfl
               case hlen => have := HLL.out; have := HXL.out; simp only [List.length_cons, List.length_nil]; omega
               case hB => rw [World.size_alloc]; omega
               intro v5 w5 hown5 hg5 hat5
               have HC5 := Lib.hid ((HCX.out.alloc _).grown hg5 (fun q hq => (HBLK.out q hq).1))
               have HR5 := Lib.hid ((HR_w3.out.alloc (.cells #[.int .i64 5, .int .i64 4, .int .i64 1, .int .i64 0] 27)).grown hg5 (fun q hq => by have := (HBLK.out q hq).1; omega))
               have HO5 := Lib.hid hown5
               clear hown5 hg5 hat5))
          go_ret
          refine ⟨_, _, rfl, ?_, fun x hx => ?_, HO5.out.drs, HR5.out.more (by omega), HC5.out⟩
          · have := HLL.out; have := HXL.out; simp; omega
          · rcases List.mem_append.1 hx with hx | hx
            · exact HX.out.2 x hx
            · simp at hx; subst hx
              unfold SmU; simp only; omega
        · have HL2 := Lib.hid (Own.lit (k := 4) (c := r4C) (B := w.heap.size) w3 27 #[.int .i64 0, .int .i64 4, .int .i64 0, .int .i64 0] 1 [(⟨0, 4, 0, 0⟩ : R4)] hzw3 rfl (by omega) rfl)
          have HR3 := Lib.hid (HL2.out.reads rfl).1
          have HV3 := Lib.hid (HV2.out.alloc (.cells #[.int .i64 0, .int .i64 4, .int .i64 0, .int .i64 0] 27))
          go_wp2_with (first
            | (at_builtin
               refine wpList_app (k := 4) (c := r4C) _ rfl _ _ _ rfl 27 (.agg (Array.replicate 4 (.int .i64 0))) 32 Tryd.underlying23 (by kernel_rfl) rfl (by decide) (by decide) r4C_one _ _ _ rfl HV3.out _ _ _ _ rfl HR3.out ?hm ?hlen ?hB ?_
               case hm => rfl
               case hlen => have := HLL.out; have := HXL.out; simp only [List.length_cons, List.length_nil]; omega
               case hB => rw [World.size_alloc]; omega
               intro v5 w5 hown5 hg5 hat5
               have HC5 := Lib.hid ((HCX.out.alloc _).grown hg5 (fun q hq => (HBLK.out q hq).1))
               have HR5 := Lib.hid ((HR_w3.out.alloc (.cells #[.int .i64 0, .int .i64 4, .int .i64 0, .int .i64 0] 27)).grown hg5 (fun q hq => by have := (HBLK.out q hq).1; omega))
               have HO5 := Lib.hid hown5
               clear hown5 hg5 hat5))
          go_ret
          refine ⟨_, _, rfl, ?_, fun x hx => ?_, HO5.out.drs, HR5.out.more (by omega), HC5.out⟩
          · have := HLL.out; have := HXL.out; simp; omega
          · rcases List.mem_append.1 hx with hx | hx
            · exact HX.out.2 x hx
            · simp at hx; subst hx
              unfold SmU; simp only; omega
        · have HL2 := Lib.hid (Own.lit (k := 4) (c := r4C) (B := w.heap.size) w3 27 #[.int .i64 0, .int .i64 4, .int .i64 1, .int .i64 (-1)] 1 [(⟨0, 4, 1, (-1)⟩ : R4)] hzw3 rfl (by omega) rfl)
          have HR3 := Lib.hid (HL2.out.reads rfl).1
          have HV3 := Lib.hid (HV2.out.alloc (.cells #[.int .i64 0, .int .i64 4, .int .i64 1, .int .i64 (-1)] 27))
          go_wp2_with (first
            | (at_builtin
               refine wpList_app (k := 4) (c := r4C) _ rfl _ _ _ rfl 27 (.agg (Array.replicate 4 (.int .i64 0))) 32 Tryd.underlying23 (by kernel_rfl) rfl (by decide) (by decide) r4C_one _ _ _ rfl HV3.out _ _ _ _ rfl HR3.out ?hm ?hlen ?hB ?_
               case hm => rfl
               case hlen => have := HLL.out; have := HXL.out; simp only [List.length_cons, List.length_nil]; omega
               case hB => rw [World.size_alloc]; omega
               intro v5 w5 hown5 hg5 hat5
               have HC5 := Lib.hid ((HCX.out.alloc _).grown hg5 (fun q hq => (HBLK.out q hq).1))
               have HR5 := Lib.hid ((HR_w3.out.alloc (.cells #[.int .i64 0, .int .i64 4, .int .i64 1, .int .i64 (-1)] 27)).grown hg5 (fun q hq => by have := (HBLK.out q hq).1; omega))
               have HO5 := Lib.hid hown5
               clear hown5 hg5 hat5))
          go_ret
          refine ⟨_, _, rfl, ?_, fun x hx => ?_, HO5.out.drs, HR5.out.more (by omega), HC5.out⟩
          · have := HLL.out; have := HXL.out; simp; omega
          · rcases List.mem_append.1 hx with hx | hx
            · exact HX.out.2 x hx
            · simp at hx; subst hx
              unfold SmU; simp only; omega
end Go.Proofs.YtcpopbkcphpdfaaDoor
