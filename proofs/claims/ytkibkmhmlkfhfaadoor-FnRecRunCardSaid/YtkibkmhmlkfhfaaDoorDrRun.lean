/- Drawing a recloser and ticks. -/
import Derived.Test.YtkibkmhmlkfhfaaDoorRecW
import Derived.Test.YtkibkmhmlkfhfaaDoorDrL
namespace Go.Proofs.YtkibkmhmlkfhfaaDoor
open Go.RowKit Go.Deep
set_option linter.unusedSimpArgs false
set_option linter.unusedVariables false
def DrawnRun (w : World) (e : Ending) (w' : World) : Prop := ∃ (a b c d : Int) (v : Value) (xs : List Bool), e = .returned (.tuple #[.agg #[.int .i64 a, .int .i64 b, .int .i64 c, .int .i64 d], v]) ∧ SmallR a b c d ∧ xs.length ≤ 30 ∧ DrS 1 boolC w' w.heap.size v xs ∧ Below w.heap.size w w'
set_option maxRecDepth 100000 in
set_option maxHeartbeats 4000000 in
theorem drawRecRun_any (A : Option Addr) (c : Nat) (bs : List Int) (w : World) (hR : Reads 1 byteC w w.heap.size A bs) (hb : ∀ x ∈ bs, U8 x) (hl : bs.length ≤ 1048576) (hc : bs.length ≤ c) (hcm : c ≤ 9223372036854775807) :
    Calls Tryd.prog 19 #[.slice A bs.length c] w (DrawnRun w) := by
  have HR := Lib.hid hR; clear hR
  have HB := Lib.hid hb; clear hb
  go_enter Tryd.func19, Tryd.ntmps19
  go_wp2_with fail; ((with_reducible refine (l20Open_any A c bs _ ((HR.out.below (Below.alloc (Below.refl w.heap.size w) (Nat.le_refl _) _) (Nat.le_refl _)).more (by simp)) HB.out hl hc hcm).mono ?_); rintro e w1 ⟨g, rfl, hg, hr1, hb_1⟩); have cB0_1 := keepB hb_1 (g := w.heap.size) (by go_size); have fB0_1 := keepF hb_1 (g := w.heap.size) (by go_size); have zB0_1 := keepZ hb_1 (g := w.heap.size) (by go_size); have hz_1 := hb_1.size; (try simp only [World.size_alloc, World.size_setCell, World.size_drew] at hz_1)
  have hgz := hr1.lt
  have HR1 := Lib.hid hr1; clear hr1
  simp only [World.size_alloc] at hg
  have K0 : Hid (Bk w1 w.heap.size 24 #[.int .i64 0, .int .i64 0, .int .i64 0, .int .i64 0]) := (Bk.new w _ _).keep hb_1
  have HB1 : Hid (Below w.heap.size w w1) := by unfold Hid; (repeat' (first | (with_reducible exact Below.refl _ _) | (with_reducible refine Below.alloc ?_ ?_ _) | (with_reducible refine Below.setCell ?_ ?_ _) | (with_reducible refine Below.drew ?_) | (refine Below.trans ?_ (Below.mono (by with_reducible assumption) ?_)) | go_size))
  go_wp2_with fail
  refine (l20Recloser_any g 0 9 _ HR1.out (by omega) (by omega) (by omega)).mono ?_
  rintro e w2 ⟨a, b, c', d, rfl, hs, hr2, hc2⟩
  have HS := Lib.hid hs
  have K0b := Lib.hid (hc2.bk K0.out (by omega))
  have HB2 : Hid (Below w.heap.size w w2) := HB1.out.trans ((hc2.below (by omega)).mono (by omega))
  have HR2 := Lib.hid hr2
  have hz2 := hc2.size
  clear hs hc2 hr2 HB1 K0 hb_1 HR1 cB0_1 fB0_1 zB0_1 hz_1
  have hgz2 := HR2.out.lt
  have K1 : Hid (Bk ((w2.alloc (.cells #[.int .i64 a, .int .i64 b, .int .i64 c', .int .i64 d] 24)).alloc (.cells #[] 4)) w2.heap.size 24 #[.int .i64 a, .int .i64 b, .int .i64 c', .int .i64 d]) := (Bk.new w2 _ _).alloc _
  have K0c := Lib.hid ((K0b.out.alloc (.cells #[.int .i64 a, .int .i64 b, .int .i64 c', .int .i64 d] 24)).alloc (.cells #[] 4))
  have HO : Hid (Own 1 boolC 4 ((w2.alloc (.cells #[.int .i64 a, .int .i64 b, .int .i64 c', .int .i64 d] 24)).alloc (.cells #[] 4)) (w2.heap.size + 1) (.slice (some ⟨w2.heap.size + 1, 0, none⟩) 0 0) []) := by
    unfold Hid
    have h := Own.lit (k := 1) (c := boolC) (B := w2.heap.size + 1) (w2.alloc (.cells #[.int .i64 a, .int .i64 b, .int .i64 c', .int .i64 d] 24)) 4 #[] 0 [] (by simp) rfl (by omega) rfl
    simpa using h
  have HB2' : Hid (Below w.heap.size w ((w2.alloc (.cells #[.int .i64 a, .int .i64 b, .int .i64 c', .int .i64 d] 24)).alloc (.cells #[] 4))) := by unfold Hid; have hq := HB2.out; have hqz := hq.size; (repeat' (first | (with_reducible exact Below.refl _ _) | (with_reducible refine Below.alloc ?_ ?_ _) | (with_reducible refine Below.setCell ?_ ?_ _) | (with_reducible refine Below.drew ?_) | (refine Below.trans ?_ (Below.mono (by with_reducible assumption) ?_)) | go_size))
  go_wp2_with fail; ((with_reducible refine (pick_any g (40) 4 _ ((HR2.out.alloc _).alloc _) (by omega) (by omega)).mono ?_); rintro e w3 ⟨v, rfl, h0v, h1v, hr_w3, hc_w3⟩); have hz_w3 := hc_w3.size; (try simp only [World.size_alloc, World.size_setCell, World.size_drew] at hz_w3); have HR_w3 := Lib.hid hr_w3; have HC_w3 := Lib.hid hc_w3; clear hr_w3 hc_w3
  have HOa := Lib.hid (HO.out.chg HC_w3.out (by omega))
  have K0d := Lib.hid (HC_w3.out.bk K0c.out (by omega))
  have K1d := Lib.hid (HC_w3.out.bk K1.out (by omega))
  have HB3 : Hid (Below w.heap.size w w3) := HB2'.out.trans ((HC_w3.out.below (by simp; omega)).mono (by omega))
  clear HO K0c K1 HB2' HC_w3
  go_wp2_with fail; ((with_reducible refine (pick_any g (41) 30 _ (HR_w3.out) (by omega) (by omega)).mono ?_); rintro e w4 ⟨k0, rfl, h0k0, h1k0, hr_w4, hc_w4⟩); have hz_w4 := hc_w4.size; (try simp only [World.size_alloc, World.size_setCell, World.size_drew] at hz_w4); have HR_w4 := Lib.hid hr_w4; have HC_w4 := Lib.hid hc_w4; clear hr_w4 hc_w4
  have HOb := Lib.hid (HOa.out.chg HC_w4.out (by omega))
  have K0e := Lib.hid (HC_w4.out.bk K0d.out (by omega))
  have K1e := Lib.hid (HC_w4.out.bk K1d.out (by omega))
  have HB4 : Hid (Below w.heap.size w w4) := HB3.out.trans ((HC_w4.out.below (by omega)).mono (by omega))
  clear HOa K0d K1d HB3 HC_w4
  have HB2z := HB2.out.size
  go_wp2_with fail
  go_loopw [6, 8] (fun t u wr => ∃ (k : Int) (xs : List Bool), u = .int .i64 k ∧ 0 ≤ k ∧ k ≤ 30 ∧ Hid ((xs.length : Int) + k ≤ 30) ∧ Hid (RdOk 54 wr g (100 - k)) ∧ Hid (Own 1 boolC 4 wr (w2.heap.size + 1) t xs) ∧
      Hid (Bk wr w.heap.size 24 #[.int .i64 0, .int .i64 0, .int .i64 0, .int .i64 0]) ∧ Hid (Bk wr w2.heap.size 24 #[.int .i64 a, .int .i64 b, .int .i64 c', .int .i64 d]) ∧ Hid (Below w.heap.size w wr)) (fun _ u _ => (intOf u).toNat)
  case atStart => exact ⟨k0, [], rfl, h0k0, by omega, (by unfold Hid; simp; omega), HR_w4.out.more (by omega), HOb, K0e, K1e, HB4⟩
  case round =>
    obtain ⟨k, xs, rfl, hk0, hk1, HX, HRr, HV, HK0, HK1, HBr⟩ := hrel
    clear HOb K0e K1e HB4 HR_w4 hz_w4 hz_w3 HR_w3
    have hgr := HRr.out.lt
    have hzr := HK1.out.lt
    obtain ⟨vA, vc, hvv⟩ := HV.out.slice
    have HXL := Lib.hid HX.out
    generalize hll : xs.length = ll at hvv HXL
    have HLL := Lib.hid hll; clear hll
    subst hvv
    by_cases hk : 0 < k
    · go_wp2_with fail; ((with_reducible refine (pick_any g (100 - k) 5 _ (HRr.out) (by omega) (by omega)).mono ?_); rintro e wa ⟨v1, rfl, h0v1, h1v1, hr_wa, hc_wa⟩); have hz_wa := hc_wa.size; (try simp only [World.size_alloc, World.size_setCell, World.size_drew] at hz_wa); have HR_wa := Lib.hid hr_wa; have HC_wa := Lib.hid hc_wa; clear hr_wa hc_wa
      have HV1 := Lib.hid (HV.out.chg HC_wa.out (by omega))
      have HK0a := Lib.hid (HC_wa.out.bk HK0.out (by omega))
      have HK1a := Lib.hid (HC_wa.out.bk HK1.out (by omega))
      have HBa : Hid (Below w.heap.size w wa) := HBr.out.trans ((HC_wa.out.below (by omega)).mono (by omega))
      have hza := HK1a.out.lt
      clear HC_wa
      have hxl : xs.length ≤ 30 := by have := HLL.out; have := HXL.out; omega
      have HL_7 := Lib.hid (Own.lit (k := 1) (c := boolC) (B := w2.heap.size + 1) wa 4 #[.bool (decide (v1 < 1 + v))] 1 [decide (v1 < 1 + v)] (by first | exact Nat.le_refl _ | omega) rfl (by omega) rfl); have HQ_7 := Lib.hid (HL_7.out.reads rfl).1; have HV_7 := Lib.hid (Own.alloc (HV1.out) (.cells #[.bool (decide (v1 < 1 + v))] 4)); have HK_7 := Lib.hid (Own.blk (HV1.out)); go_wp2_with (first | (at_builtin; refine wpList_app_g (k := 1) (c := boolC) _ (by rfl) _ _ _ rfl 4 (.bool false) 1 Tryd.underlying34 (by kernel_rfl) rfl (by decide) (by decide) boolC_one _ _ _ rfl HV_7.out _ _ _ _ rfl HQ_7.out ?hm ?hlen ?hB ?_; (case hm => (first | rfl | (simp; done) | omega)); (case hlen => (simp only [List.length_cons, List.length_nil]; omega)); (case hB => ((try simp only [World.size_alloc]); omega)); intro v_7 w_7 hown_7 hg_7 hat_7; have HW_7 : Hid (Below (w2.heap.size + 1) (wa) w_7) := (Below.alloc (Below.refl _ _) (by first | exact Nat.le_refl _ | omega) _).grown hg_7 (by (try simp only [World.size_alloc]); omega) (fun q hq => (HK_7.out q hq).1); have HG_7 := Lib.hid hg_7; have HAT_7 := Lib.hid hat_7; have HO_7 := Lib.hid hown_7; obtain ⟨A_7, c_7, hv_7⟩ := hown_7.slice; simp only [List.length_append, List.length_cons, List.length_nil, Nat.zero_add] at hv_7; subst hv_7; have hz_7 := HG_7.out.size; (try simp only [World.size_alloc] at hz_7); clear hown_7 hg_7 hat_7 HL_7 HQ_7 HV_7))
      have HRR := Lib.hid ((HR_wa.out.alloc (.cells #[.bool (decide (v1 < 1 + v))] 4)).grown HG_7.out (fun q hq => by have := (HK_7.out q hq).1; omega))
      have HK0b := Lib.hid ((HK0a.out.alloc (.cells #[.bool (decide (v1 < 1 + v))] 4)).grown HG_7.out (fun e => by have := (HK_7.out _ e.symm).1; omega))
      have HK1b := Lib.hid ((HK1a.out.alloc (.cells #[.bool (decide (v1 < 1 + v))] 4)).grown HG_7.out (fun e => by have := (HK_7.out _ e.symm).1; omega))
      have HBb : Hid (Below w.heap.size w w_7) := HBa.out.trans (HW_7.out.mono (by omega))
      refine ⟨⟨k - 1, _, by go_num, by omega, by omega, ?_, HRR.out.more (by omega), HO_7, HK0b, HK1b, HBb⟩, by simp [intOf]; omega⟩
      unfold Hid
      have := HLL.out; have := HXL.out; simp; omega
    · have hk' : k ≤ 0 := by omega
      have cB0 := HK0.out.cell
      have fB0 := HK0.out.frozen
      have cB1 := HK1.out.cell
      have hz0 := HK0.out.lt
      have hne : w2.heap.size ≠ w.heap.size := by omega
      go_wp2_with fail
      refine bodyPost_ret (by simp [results, Tryd.results19, go_sem, cB0]; try rfl) rfl ?_
      refine ⟨_, _, _, _, _, xs, rfl, HS.out, by have := HLL.out; have := HXL.out; omega, ?_, ?_⟩
      · have hd := (HV.out.drs).mono (B' := w.heap.size + 1) (by omega)
        refine (hd.kept (by simp) fun q hq hz => ?_).mono (by omega)
        rw [Below.heap_setCell _ _ _ _ (by simp; omega), Below.heap_setCell _ _ _ _ (by simp; omega), Below.heap_setCell _ _ _ _ (by simp; omega), Below.heap_setCell _ _ _ _ (by simp; omega)]
      · have hB := HBr.out
        (repeat' (first | (with_reducible exact Below.refl _ _) | (with_reducible refine Below.alloc ?_ ?_ _) | (with_reducible refine Below.setCell ?_ ?_ _) | (with_reducible refine Below.drew ?_) | (refine Below.trans ?_ (Below.mono (by with_reducible assumption) ?_)) | go_size))
end Go.Proofs.YtkibkmhmlkfhfaaDoor
