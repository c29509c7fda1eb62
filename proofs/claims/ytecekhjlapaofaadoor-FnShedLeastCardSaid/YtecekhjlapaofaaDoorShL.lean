/- The reference's l19Set and ShedLeast. -/
import Derived.Test.YtecekhjlapaofaaDoorShP
import Derived.Test.YtecekhjlapaofaaDoorAppG
namespace Go.Proofs.YtecekhjlapaofaaDoor
open Go.RowKit Go.Deep
set_option linter.unusedSimpArgs false
set_option linter.unusedVariables false
theorem setN_snoc (s k : Nat) : ((List.range (k + 1)).filter (bitN s)) = ((List.range k).filter (bitN s)) ++ (if bitN s k = true then [k] else []) := by
  rw [List.range_succ, List.filter_append]
  by_cases h : bitN s k = true <;> simp [h]
def preI (s k : Nat) : List Int := ((List.range k).filter (bitN s)).map fun (k : Nat) => (k : Int)
theorem preI_succ (s k : Nat) : preI s (k + 1) = preI s k ++ (if bitN s k = true then [(k : Int)] else []) := by
  unfold preI; rw [setN_snoc, List.map_append]; by_cases h : bitN s k = true <;> simp [h]
theorem preI_len (s k : Nat) : (preI s k).length ≤ k := by unfold preI; rw [List.length_map]; exact Nat.le_trans (List.length_filter_le _ _) (by simp)
set_option maxRecDepth 100000 in
set_option maxHeartbeats 2000000 in
theorem l19Set_any (s : Nat) (hs : s < 256) (w : World) : Calls Tryd.prog 38 #[.int .i64 s] w (RetS 1 intC 3 w (setIdx s)) := by
  have HO : Hid (Own 1 intC 3 (w.alloc (.cells #[] 3)) w.heap.size (.slice (some ⟨w.heap.size, 0, none⟩) 0 0) []) := by
    unfold Hid
    exact Own.lit (k := 1) (c := intC) (B := w.heap.size) w 3 #[] 0 [] (Nat.le_refl _) rfl (by omega) rfl
  have HB0 : Hid (Below w.heap.size w (w.alloc (.cells #[] 3))) := by unfold Hid; (repeat' (first | (with_reducible exact Below.refl _ _) | (with_reducible refine Below.alloc ?_ ?_ _) | (with_reducible refine Below.setCell ?_ ?_ _) | (with_reducible refine Below.drew ?_) | (refine Below.trans ?_ (Below.mono (by with_reducible assumption) ?_)) | go_size))
  go_enter Tryd.func38, Tryd.ntmps38
  go_wp2_with fail
  go_loopw [3, 4] (fun t3 t4 wr => ∃ i : Nat, t4 = .int .i64 i ∧ i ≤ 8 ∧ Hid (Own 1 intC 3 wr w.heap.size t3 (preI s i)) ∧ Hid (Below w.heap.size w wr)) (fun _ t4 _ => 8 - (intOf t4).toNat)
  case atStart => exact ⟨0, rfl, by omega, HO, HB0⟩
  case round =>
    obtain ⟨i, rfl, hi, HV, HBr⟩ := hrel
    clear HO HB0
    have hzw := HBr.out.size
    obtain ⟨vA, vc, hvv⟩ := HV.out.slice
    have hpl := preI_len s i
    have HPL := Lib.hid hpl; clear hpl
    generalize hll : (preI s i).length = ll at hvv
    have HLL := Lib.hid hll; clear hll
    subst hvv
    by_cases hlt : i < 8
    · have hxl : (preI s i).length ≤ 8 := by have := HPL.out; omega
      have hq0 : (0 : Int) ≤ (s : Int) / 2 ^ i := Int.ediv_nonneg (by omega) (Int.pow_nonneg (by omega))
      have hm1 : ((s : Int) / 2 ^ i).tmod 2 = (s : Int) / 2 ^ i % 2 := Int.tmod_eq_emod_of_nonneg hq0
      have hqe : (s : Int) / 2 ^ i % 2 = ((s / 2 ^ i % 2 : Nat) : Int) := by push_cast; rfl
      clear hq0
      by_cases hb : bitN s i = true
      · have hb1 : ((s : Int) / 2 ^ i % 2 == 1) = true := by rw [hqe]; unfold bitN at hb; simp at hb; simp [hb]
        clear hqe
        have HV1 : Hid (preI s (i + 1) = preI s i ++ [(i : Int)]) := by unfold Hid; rw [preI_succ, if_pos hb]
        clear hb
        have HL_7 := Lib.hid (Own.lit (k := 1) (c := intC) (B := w.heap.size) wr 3 #[.int .i64 i] 1 [(i : Int)] (by first | exact Nat.le_refl _ | omega) rfl (by omega) rfl); have HQ_7 := Lib.hid (HL_7.out.reads rfl).1; have HV_7 := Lib.hid (Own.alloc (HV.out) (.cells #[.int .i64 i] 3)); have HK_7 := Lib.hid (Own.blk (HV.out)); go_wp2_with (first | (at_builtin; refine wpList_app_g (k := 1) (c := intC) _ (by rfl) _ _ _ rfl 3 (.int .i64 0) 8 Tryd.underlying26 (by kernel_rfl) rfl (by decide) (by decide) intC_one _ _ _ rfl HV_7.out _ _ _ _ rfl HQ_7.out ?hm ?hlen ?hB ?_; (case hm => (first | rfl | (simp; done) | omega)); (case hlen => (simp only [List.length_cons, List.length_nil]; omega)); (case hB => ((try simp only [World.size_alloc, World.size_drew]); omega)); intro v_7 w_7 hown_7 hg_7 hat_7; have HW_7 : Hid (Below (w.heap.size) (wr) w_7) := (Below.alloc (Below.refl _ _) (by first | exact Nat.le_refl _ | omega) _).grown hg_7 (by (try simp only [World.size_alloc]); omega) (fun q hq => (HK_7.out q hq).1); have HG_7 := Lib.hid hg_7; have HAT_7 := Lib.hid hat_7; have HO_7 := Lib.hid hown_7; obtain ⟨A_7, c_7, hv_7⟩ := hown_7.slice; simp only [List.length_append, List.length_cons, List.length_nil, Nat.zero_add] at hv_7; subst hv_7; have hz_7 := HG_7.out.size; (try simp only [World.size_alloc] at hz_7); clear hown_7 hg_7 hat_7 HL_7 HQ_7 HV_7))
        refine ⟨⟨i + 1, by go_num, by omega, ?_, HBr.out.trans HW_7.out⟩, by simp [intOf]; omega⟩
        unfold Hid; rw [HV1.out]; exact HO_7.out
      · have hb1 : ((s : Int) / 2 ^ i % 2 == 1) = false := by
          have : ¬ s / 2 ^ i % 2 = 1 := by intro h; apply hb; unfold bitN; simp [h]
          rw [hqe, beq_eq_false_iff_ne]; omega
        clear hqe
        have HV1 : Hid (preI s (i + 1) = preI s i) := by unfold Hid; rw [preI_succ, if_neg hb, List.append_nil]
        clear hb
        go_wp2_with fail
        refine ⟨⟨i + 1, by go_num, by omega, ?_, HBr⟩, by simp [intOf]; omega⟩
        unfold Hid; rw [HV1.out]; exact HV.out
    · obtain rfl : i = 8 := by omega
      go_wp2_with fail
      go_ret
      exact ⟨_, rfl, HV.out.res, HBr.out⟩
end Go.Proofs.YtecekhjlapaofaaDoor
