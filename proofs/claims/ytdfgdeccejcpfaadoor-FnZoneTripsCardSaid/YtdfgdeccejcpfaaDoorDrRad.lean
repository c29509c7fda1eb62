/- Drawing nets with one feed (spec.l20Radial). -/
import Derived.Test.YtdfgdeccejcpfaaDoorRad
import Derived.Test.YtdfgdeccejcpfaaDoorAppS
import Derived.Deep.RegionLaw
import Derived.Deep.DeepCutAuto
import Derived.Deep.CutBlock
namespace Go.Proofs.YtdfgdeccejcpfaaDoor
open Go.RowKit Go.Deep
set_option linter.unusedSimpArgs false
set_option linter.unusedVariables false

set_option maxRecDepth 100000 in
set_option maxHeartbeats 16000000 in
theorem l20Radial_any (g : Nat) (P n : Int) (w : World) (hr : RdOk 83 w g P) (hP : P ≤ 900000) (hn : n ≤ 1000) (hn0 : 0 ≤ n) :
    Calls Tryd.prog 31 #[.pointer (some ⟨g, 0, none⟩), .int .i64 n] w (DrawnR g P w) := by
  have hgl := hr.lt
  have HR := Lib.hid hr; clear hr
  go_enter Tryd.func31, Tryd.ntmps31
  go_wp2_with fail; ((with_reducible refine (pick_any g (P) 6 _ (HR.out.alloc _) (by omega) (by omega)).mono ?_); rintro e w1 ⟨v0, rfl, h0v0, h1v0, hr_w1, hc_w1⟩); have cB0_w1 := Chg.cell hc_w1 (b := w.heap.size) (by go_size) (by omega); have fB0_w1 := Chg.frozen hc_w1 (b := w.heap.size) (by go_size) (by omega); have zB0_w1 : w.heap.size < w1.heap.size := Nat.lt_of_lt_of_le (by go_size) hc_w1.size; have hz_w1 := hc_w1.size; (try simp only [World.size_alloc, World.size_setCell, World.size_drew] at hz_w1); have HR_w1 := Lib.hid hr_w1; have HC_w1 := Lib.hid hc_w1; clear hr_w1 hc_w1
  obtain ⟨nb, hnb⟩ : ∃ nb : Nat, 2 + v0 = (nb : Int) := ⟨(2 + v0).toNat, by omega⟩
  have hnb2 : 2 ≤ nb := by omega
  have hnb7 : nb ≤ 7 := by omega
  have hg1 : g < w1.heap.size := by omega
  have h41 : w.heap.size < w1.heap.size := by omega
  have HC1 : Hid (Chg g w w1) := ((Chg.refl g w).alloc _).trans HC_w1.out
  have HK4 : Hid (Bk w1 w.heap.size 25 #[.int .i64 0, .slice none 0 0]) := HC_w1.out.bk (Bk.new _ _ _) (by omega)
  have HS0 : Hid (RadW (((w1.alloc (.cells #[.int .i64 (nb : Int), .slice none 0 0] 25)).alloc (.cells #[] 4)).alloc (.cells #[] 68)) w.heap.size w1.heap.size (nb : Int) (.slice none 0 0) (.slice (some ⟨w1.heap.size + 1, 0, none⟩) 0 0) (.slice (some ⟨w1.heap.size + 1 + 1, 0, none⟩) 0 0) [] [] []) := by
    refine ⟨((HK4.out.alloc _).alloc _).alloc _, ((Bk.new _ _ _).alloc _).alloc _, Own.nil, ?_, ?_, ?_, ?_, ?_⟩
    · have h := (Own.lit (k := 1) (c := boolC) (B := w1.heap.size + 1) (w1.alloc (.cells #[.int .i64 (nb : Int), .slice none 0 0] 25)) 4 #[] 0 [] (by simp) rfl (by omega) rfl).alloc (.cells #[] 68)
      simpa using h
    · have h := Own.lit (k := 2) (c := r2C) (B := w1.heap.size + 1) ((w1.alloc (.cells #[.int .i64 (nb : Int), .slice none 0 0] 25)).alloc (.cells #[] 4)) 68 #[] 0 [] (by simp) rfl (by omega) rfl
      simpa using h
    · intro q h; cases h
    · intro q h; cases h
    · intro q h1 h2
      injection h1 with h1; injection h2 with h2
      simp at h1 h2; omega
  have HRx := Lib.hid (((HR_w1.out.alloc (.cells #[.int .i64 (nb : Int), .slice none 0 0] 25)).alloc (.cells #[] 4)).alloc (.cells #[] 68))
  clear cB0_w1 fB0_w1 zB0_w1 HC_w1 HR_w1
  go_wp2_with fail; ((with_reducible refine (pick_any g (P + 1) 2 _ (HRx.out) (by omega) (by omega)).mono ?_); rintro e w2 ⟨v1, rfl, h0v1, h1v1, hr_w2, hc_w2⟩); have hz_w2 := hc_w2.size; (try simp only [World.size_alloc, World.size_setCell, World.size_drew] at hz_w2); have HR_w2 := Lib.hid hr_w2; have HC_w2 := Lib.hid hc_w2; clear hr_w2 hc_w2
  have HC2 : Hid (Chg g w w2) := (((HC1.out.alloc _).alloc _).alloc _).trans HC_w2.out
  have HS2 := Lib.hid (HS0.out.chg HC_w2.out hgl hg1)
  clear HS0 HRx HC_w2 HC1 HK4 hz_w2 hz_w1
  clear hnb h0v0 h1v0
  generalize hg7e : w1.heap.size = g7 at HS2 hg1 h41 ⊢
  have HG7 := Lib.hid hg7e; clear hg7e
  obtain ⟨n1, hn1⟩ : ∃ n1, n1 + 1 = nb := ⟨nb - 1, by omega⟩
  have hi1 : (nb : Int) - 1 = (n1 : Int) := by omega
  have hi2 : (nb : Int) - 2 = ((n1 - 1 : Nat) : Int) := by omega
  have hj1 : IntKind.i64.wrap ((nb : Int) - 1) = (n1 : Int) := by rw [IntWalk.i64_in _ (by omega)]; exact hi1
  have HI := Lib.hid (And.intro hi1 hi2); clear hi1 hi2
  clear h0v1 h1v1
  go_upto_region 5 with fail
  generalize (v1 == 0) = wh
  go_wp2_with fail
  go_loopw [8, 9, 11] (fun t8 t9 t11 wr => ∃ (k : Nat) (lv : Value) (ls : List R3) (on : List Bool) (bs : List R2), t11 = .int .i64 k ∧ k ≤ nb ∧ Hid (on.length = k - 1 ∧ ls.length ≤ k ∧ bs.length = k) ∧ Hid (RadW wr w.heap.size g7 (nb : Int) lv t8 t9 ls on bs) ∧ Hid (RdOk 83 wr g (P + 2 + 4 * k)) ∧ Hid (Chg g w wr)) (fun _ _ t11 _ => nb - (intOf t11).toNat)
  case atStart => exact ⟨0, _, [], [], [], rfl, Nat.zero_le _, ⟨by simp, by simp, by simp⟩, HS2, HR_w2.out.more (by omega), HC2⟩
  case round =>
    obtain ⟨k, lv, ls, on, bs, rfl, hk, HLEN, HS, HR2, HC⟩ := hrel
    clear HS2 HC2 HR_w2
    have hgz := HR2.out.lt
    have hz4 := HS.out.res.lt
    have hz7 := HS.out.net.lt
    have c0 : wr.cell? ⟨g7, 0, none⟩ = some (.int .i64 (nb : Int)) := HS.out.net.cell 0
    have c1 : wr.cell? ⟨g7, 1, none⟩ = some lv := HS.out.net.cell 1
    have f7 := HS.out.net.frozen
    obtain ⟨lA, lc, hlv⟩ := HS.out.lns.slice
    obtain ⟨oA, oc, hov⟩ := HS.out.ons.slice
    obtain ⟨bA, bc, hbv⟩ := HS.out.bss.slice
    subst hlv hov hbv
    by_cases hlt : k < nb
    · have hk1 : (k : Int) < (nb : Int) := by omega
      have hlsl : ls.length ≤ 8 := by have := HLEN.out.2.1; omega
      have honl : on.length ≤ 8 := by have := HLEN.out.1; omega
      have hbsl : bs.length ≤ 8 := by have := HLEN.out.2.2; omega
      go_upto_if 32 with fail
      go_cut [8] (fun t8 wx => ∃ (lv : Value) (ls : List R3) (on : List Bool), Hid (on.length = k ∧ ls.length ≤ k + 1) ∧ Hid (RadW wx w.heap.size g7 (nb : Int) lv t8 (.slice bA bs.length bc) ls on bs) ∧ Hid (RdOk 83 wx g (P + 2 + 4 * k + 3)) ∧ Hid (Chg g w wx))
      case first =>
        by_cases hk0 : 0 < k
        · have hk2 : (0 : Int) < (k : Int) := by omega
          have HRd : Hid (RdOk 83 wr.drew g (P + 2 + 4 * k)) := HR2.out
          have HSd : Hid (RadW wr.drew w.heap.size g7 (nb : Int) (.slice lA ls.length lc) (.slice oA on.length oc) (.slice bA bs.length bc) ls on bs) := HS.out.drew
          have HCd : Hid (Chg g w wr.drew) := HC.out.drewL
          go_wp2_with fail
          go_region_law
            (first
              | (refine step_app_g (k := 3) (c := r3C) _ (by rfl) _ _ _ rfl 58 (.agg (Array.replicate 3 (.int .i64 0))) 24 Tryd.underlying23 (by kernel_rfl) rfl (by decide) (by decide) r3C_one _ _ _ rfl HV_7.out _ _ _ _ rfl HQ_7.out ?hm ?hlen ?hB ?_; (case hm => (first | rfl | (simp; done) | omega)); (case hlen => (simp only [List.length_cons, List.length_nil]; omega)); (case hB => ((try simp only [World.size_alloc, World.size_drew]); omega)); intro v_7 w_7 hown_7 hg_7 hat_7; have HW_7 : Hid (Below (g7 + 1) (wb) w_7) := (Below.alloc (Below.refl _ _) (by first | exact Nat.le_refl _ | omega) _).grown hg_7 (by (try simp only [World.size_alloc]); omega) (fun q hq => (HK_7.out q hq).1); have HG_7 := Lib.hid hg_7; have HAT_7 := Lib.hid hat_7; have HO_7 := Lib.hid hown_7; obtain ⟨A_7, c_7, hv_7⟩ := hown_7.slice; simp only [List.length_append, List.length_cons, List.length_nil, Nat.zero_add] at hv_7; subst hv_7; have hz_7 := HG_7.out.size; (try simp only [World.size_alloc] at hz_7); clear hown_7 hg_7 hat_7 HL_7 HQ_7 HV_7; have HN7 := Lib.hid (HSb.out.netL HG_7.out) ; have cc0 : w_7.cell? ⟨g7, 0, none⟩ = some (.int .i64 (nb : Int)) := HN7.out.cell 0 ; have cc1 : w_7.cell? ⟨g7, 1, none⟩ = some (.slice lA ls.length lc) := HN7.out.cell 1 ; have ff7 := HN7.out.frozen ; have zz7 := HN7.out.lt)
              | (go_simp; go_at_call 33; (with_reducible refine (pick_any g (P + 2 + 4 * k) (k : Int) _ (by with_reducible exact HRd.out) (by omega) (by omega)).mono ?_); rintro e wa ⟨va, rfl, h0a, h1a, hra, hca⟩; have HRa := Lib.hid hra; have HSa := Lib.hid (HSd.out.chg hca hgl hg1); have HCa := Lib.hid (HCd.out.trans hca); clear hra hca; have a0 : wa.cell? ⟨g7, 0, none⟩ = some (.int .i64 (nb : Int)) := HSa.out.net.cell 0; have a1 : wa.cell? ⟨g7, 1, none⟩ = some (.slice lA ls.length lc) := HSa.out.net.cell 1; have az := HSa.out.net.lt)
              | (go_simp; go_at_call 33; (with_reducible refine (pick_any g (P + 2 + 4 * k + 1) 90 _ (by with_reducible exact HRa.out) (by omega) (by omega)).mono ?_); rintro e wb ⟨vb, rfl, h0b, h1b, hrb, hcb⟩; have HRb := Lib.hid hrb; have HSb := Lib.hid (HSa.out.chg hcb hgl hg1); have HCb := Lib.hid (HCa.out.trans hcb); clear hrb hcb; have b0 : wb.cell? ⟨g7, 0, none⟩ = some (.int .i64 (nb : Int)) := HSb.out.net.cell 0; have b1 : wb.cell? ⟨g7, 1, none⟩ = some (.slice lA ls.length lc) := HSb.out.net.cell 1; have bz := HSb.out.net.lt; have hwb : IntKind.i64.wrap (10 + vb) = 10 + vb := IntWalk.i64_in _ (by omega); have hgB : g7 + 1 ≤ wb.heap.size := (by omega); have HL_7 := Lib.hid (Own.lit (k := 3) (c := r3C) (B := g7 + 1) wb 58 #[.int .i64 va, .int .i64 k, .int .i64 (10 + vb)] 1 [(⟨va, k, 10 + vb⟩ : R3)] (by first | exact Nat.le_refl _ | omega) rfl (by omega) rfl); have HQ_7 := Lib.hid (HL_7.out.reads rfl).1; have HV_7 := Lib.hid (Own.alloc (HSb.out.lns) (.cells #[.int .i64 va, .int .i64 k, .int .i64 (10 + vb)] 58)); have HK_7 := Lib.hid (Own.blk (HSb.out.lns))))
          all_goals
            have HSL : Hid (RadW (w_7.setCell ⟨g7, 1, none⟩ (.slice A_7 (ls.length + 1) c_7)) w.heap.size g7 (nb : Int) (.slice A_7 (ls.length + 1) c_7) (.slice oA on.length oc) (.slice bA bs.length bc) (ls ++ [⟨va, k, 10 + vb⟩]) on bs) := HSb.out.pushL h41 HO_7.out HG_7.out HAT_7.out
            have HRL : Hid (RdOk 83 (w_7.setCell ⟨g7, 1, none⟩ (.slice A_7 (ls.length + 1) c_7)) g (P + 2 + 4 * k + 2)) := ((rdG HRb.out HSb.out.lns hg1 HG_7.out).set_new hg1 _).more (by omega)
            have HCL : Hid (Chg g w (w_7.setCell ⟨g7, 1, none⟩ (.slice A_7 (ls.length + 1) c_7))) := (chG HCb.out HSb.out.lns (by omega) HG_7.out).set_new (by omega) _
            generalize hwL : w_7.setCell ⟨g7, 1, none⟩ (.slice A_7 (ls.length + 1) c_7) = wL at HSL HRL HCL ⊢
            clear hwL cc0 cc1 ff7 zz7 a0 a1 az b0 b1 bz hwb hgB
            have hzL := HSL.out.net.lt
            have hgB : g7 + 1 ≤ wL.heap.size := by omega
            have hgL : g < wL.heap.size := by omega
            cases wh with
            | true =>
              have HL_8 := Lib.hid (Own.lit (k := 1) (c := boolC) (B := g7 + 1) wL 4 #[.bool true] 1 [true] (by first | exact Nat.le_refl _ | omega) rfl (by omega) rfl); have HQ_8 := Lib.hid (HL_8.out.reads rfl).1; have HV_8 := Lib.hid (Own.alloc (HSL.out.ons) (.cells #[.bool true] 4)); have HK_8 := Lib.hid (Own.blk (HSL.out.ons)); go_wp2_with (first | (at_builtin; refine wpList_app_g (k := 1) (c := boolC) _ (by rfl) _ _ _ rfl 4 (.bool false) 1 Tryd.underlying26 (by kernel_rfl) rfl (by decide) (by decide) boolC_one _ _ _ rfl HV_8.out _ _ _ _ rfl HQ_8.out ?hm ?hlen ?hB ?_; (case hm => (first | rfl | (simp; done) | omega)); (case hlen => (simp only [List.length_cons, List.length_nil]; omega)); (case hB => ((try simp only [World.size_alloc, World.size_drew]); omega)); intro v_8 w_8 hown_8 hg_8 hat_8; have HW_8 : Hid (Below (g7 + 1) (wL) w_8) := (Below.alloc (Below.refl _ _) (by first | exact Nat.le_refl _ | omega) _).grown hg_8 (by (try simp only [World.size_alloc]); omega) (fun q hq => (HK_8.out q hq).1); have HG_8 := Lib.hid hg_8; have HAT_8 := Lib.hid hat_8; have HO_8 := Lib.hid hown_8; obtain ⟨A_8, c_8, hv_8⟩ := hown_8.slice; simp only [List.length_append, List.length_cons, List.length_nil, Nat.zero_add] at hv_8; subst hv_8; have hz_8 := HG_8.out.size; (try simp only [World.size_alloc] at hz_8); clear hown_8 hg_8 hat_8 HL_8 HQ_8 HV_8))
              go_meet
              exact ⟨_, _, _, ⟨by have := HLEN.out.1; simp; omega, by have := HLEN.out.2.1; simp; omega⟩, HSL.out.pushO h41 HO_8.out HG_8.out HAT_8.out, (rdG HRL.out HSL.out.ons hg1 HG_8.out).more (by omega), chG HCL.out HSL.out.ons (by omega) HG_8.out⟩
            | false =>
              go_wp2_with fail; ((with_reducible refine (pick_any g (P + 2 + 4 * k + 2) 6 _ (HRL.out) (by omega) (by omega)).mono ?_); rintro e wd ⟨vd, rfl, h0vd, h1vd, hr_wd, hc_wd⟩); have hz_wd := hc_wd.size; (try simp only [World.size_alloc, World.size_setCell, World.size_drew] at hz_wd); have HR_wd := Lib.hid hr_wd; have HC_wd := Lib.hid hc_wd; clear hr_wd hc_wd
              have HSd := Lib.hid (HSL.out.chg HC_wd.out hgl hg1)
              have HCd := Lib.hid (HCL.out.trans HC_wd.out)
              have hzd := HSd.out.net.lt
              have hgD : g7 + 1 ≤ wd.heap.size := by omega
              have HL_8 := Lib.hid (Own.lit (k := 1) (c := boolC) (B := g7 + 1) wd 4 #[.bool (decide (0 < vd))] 1 [(decide (0 < vd))] (by first | exact Nat.le_refl _ | omega) rfl (by omega) rfl); have HQ_8 := Lib.hid (HL_8.out.reads rfl).1; have HV_8 := Lib.hid (Own.alloc (HSd.out.ons) (.cells #[.bool (decide (0 < vd))] 4)); have HK_8 := Lib.hid (Own.blk (HSd.out.ons)); go_wp2_with (first | (at_builtin; refine wpList_app_g (k := 1) (c := boolC) _ (by rfl) _ _ _ rfl 4 (.bool false) 1 Tryd.underlying26 (by kernel_rfl) rfl (by decide) (by decide) boolC_one _ _ _ rfl HV_8.out _ _ _ _ rfl HQ_8.out ?hm ?hlen ?hB ?_; (case hm => (first | rfl | (simp; done) | omega)); (case hlen => (simp only [List.length_cons, List.length_nil]; omega)); (case hB => ((try simp only [World.size_alloc, World.size_drew]); omega)); intro v_8 w_8 hown_8 hg_8 hat_8; have HW_8 : Hid (Below (g7 + 1) (wd) w_8) := (Below.alloc (Below.refl _ _) (by first | exact Nat.le_refl _ | omega) _).grown hg_8 (by (try simp only [World.size_alloc]); omega) (fun q hq => (HK_8.out q hq).1); have HG_8 := Lib.hid hg_8; have HAT_8 := Lib.hid hat_8; have HO_8 := Lib.hid hown_8; obtain ⟨A_8, c_8, hv_8⟩ := hown_8.slice; simp only [List.length_append, List.length_cons, List.length_nil, Nat.zero_add] at hv_8; subst hv_8; have hz_8 := HG_8.out.size; (try simp only [World.size_alloc] at hz_8); clear hown_8 hg_8 hat_8 HL_8 HQ_8 HV_8))
              go_meet
              exact ⟨_, _, _, ⟨by have := HLEN.out.1; simp; omega, by have := HLEN.out.2.1; simp; omega⟩, HSd.out.pushO h41 HO_8.out HG_8.out HAT_8.out, (rdG HR_wd.out HSd.out.ons hg1 HG_8.out).more (by omega), chG HCd.out HSd.out.ons (by omega) HG_8.out⟩
        · have hk2 : ¬ (0 : Int) < (k : Int) := by omega
          go_wp2_with fail
          go_meet
          exact ⟨_, ls, on, ⟨by have := HLEN.out.1; omega, by have := HLEN.out.2.1; omega⟩, HS, HR2.out.more (by omega), HC⟩
      case rest =>
        obtain ⟨lv', ls', on', HL', HS', HR', HC'⟩ := hcut
        clear HS HR2 HC c0 c1 f7 hgz hz4 hz7
        have hgz := HR'.out.lt
        go_wp2_with fail; ((with_reducible refine (pick_any g (P + 2 + 4 * k + 3) 20 _ (HR'.out) (by omega) (by omega)).mono ?_); rintro e wa ⟨va, rfl, h0va, h1va, hr_wa, hc_wa⟩); have hz_wa := hc_wa.size; (try simp only [World.size_alloc, World.size_setCell, World.size_drew] at hz_wa); have HR_wa := Lib.hid hr_wa; have HC_wa := Lib.hid hc_wa; clear hr_wa hc_wa
        have HSa := Lib.hid (HS'.out.chg HC_wa.out hgl hg1)
        have HCa := Lib.hid (HC'.out.trans HC_wa.out)
        have hza := HSa.out.net.lt
        have hgB : g7 + 1 ≤ wa.heap.size := by omega
        have HL_9 := Lib.hid (Own.lit (k := 2) (c := r2C) (B := g7 + 1) wa 68 #[.int .i64 0, .int .i64 va] 1 [(⟨0, va⟩ : R2)] (by first | exact Nat.le_refl _ | omega) rfl (by omega) rfl); have HQ_9 := Lib.hid (HL_9.out.reads rfl).1; have HV_9 := Lib.hid (Own.alloc (HSa.out.bss) (.cells #[.int .i64 0, .int .i64 va] 68)); have HK_9 := Lib.hid (Own.blk (HSa.out.bss)); go_wp2_with (first | (at_builtin; refine wpList_app_g (k := 2) (c := r2C) _ (by rfl) _ _ _ rfl 68 (.agg (Array.replicate 2 (.int .i64 0))) 16 Tryd.underlying27 (by kernel_rfl) rfl (by decide) (by decide) r2C_one _ _ _ rfl HV_9.out _ _ _ _ rfl HQ_9.out ?hm ?hlen ?hB ?_; (case hm => (first | rfl | (simp; done) | omega)); (case hlen => (simp only [List.length_cons, List.length_nil]; omega)); (case hB => ((try simp only [World.size_alloc, World.size_drew]); omega)); intro v_9 w_9 hown_9 hg_9 hat_9; have HW_9 : Hid (Below (g7 + 1) (wa) w_9) := (Below.alloc (Below.refl _ _) (by first | exact Nat.le_refl _ | omega) _).grown hg_9 (by (try simp only [World.size_alloc]); omega) (fun q hq => (HK_9.out q hq).1); have HG_9 := Lib.hid hg_9; have HAT_9 := Lib.hid hat_9; have HO_9 := Lib.hid hown_9; obtain ⟨A_9, c_9, hv_9⟩ := hown_9.slice; simp only [List.length_append, List.length_cons, List.length_nil, Nat.zero_add] at hv_9; subst hv_9; have hz_9 := HG_9.out.size; (try simp only [World.size_alloc] at hz_9); clear hown_9 hg_9 hat_9 HL_9 HQ_9 HV_9))
        refine ⟨⟨k + 1, lv', ls', on', _, by go_num, by omega, ⟨by have := HL'.out.1; omega, HL'.out.2, by have := HLEN.out.2.2; simp; omega⟩, HSa.out.pushB h41 HO_9.out HG_9.out HAT_9.out, ?_, chG HCa.out HSa.out.bss (by omega) HG_9.out⟩, by simp [intOf]; omega⟩
        exact (rdG HR_wa.out HSa.out.bss hg1 HG_9.out).more (by omega)
    · obtain rfl : nb = k := by omega
      have hb0 : 0 < bs.length := by have := HLEN.out.2.2; omega
      obtain ⟨q, cp, hq⟩ := HS.out.bss.some_at hb0 (by omega)
      injection hq with hq1 hq2 hq3; subst hq1 hq3
      go_wp2_with fail; ((with_reducible refine (pick_any g (P + 2 + 4 * nb) 4 _ (HR2.out) (by omega) (by omega)).mono ?_); rintro e w3 ⟨v3, rfl, h0v3, h1v3, hr_w3, hc_w3⟩); have hz_w3 := hc_w3.size; (try simp only [World.size_alloc, World.size_setCell, World.size_drew] at hz_w3); have HR_w3 := Lib.hid hr_w3; have HC_w3 := Lib.hid hc_w3; clear hr_w3 hc_w3
      have HS3 := Lib.hid (HS.out.chg HC_w3.out hgl hg1)
      have HC3 := Lib.hid (HC.out.trans HC_w3.out)
      have HBS := Lib.hid HLEN.out.2.2
      have HLN3 : Hid ((nb : Int) - 1 ≤ on.length ∧ (on.length : Int) ≤ 10 - v3 ∧ (ls.length : Int) ≤ 10 - v3) := by have := HLEN.out; unfold Hid; omega
      clear HS HC HC_w3 c0 c1 f7 hz_w3 HR2 HLEN hgz hz4 hz7
      go_wp2_with fail
      go_loopw [8, 12] (fun t8 t12 wr => ∃ (m : Int) (lv : Value) (ls : List R3) (on : List Bool), t12 = .int .i64 m ∧ 0 ≤ m ∧ m ≤ 3 ∧ Hid ((nb : Int) - 1 ≤ on.length ∧ (on.length : Int) ≤ 10 - m ∧ (ls.length : Int) ≤ 10 - m) ∧ Hid (RadW wr w.heap.size g7 (nb : Int) lv t8 (.slice (some ⟨q, 0, none⟩) bs.length bc) ls on bs) ∧ Hid (RdOk 83 wr g (P + 50 - 3 * m)) ∧ Hid (Chg g w wr)) (fun _ t12 _ => (intOf t12).toNat)
      case atStart => exact ⟨v3, _, ls, on, rfl, h0v3, by omega, HLN3, HS3, HR_w3.out.more (by omega), HC3⟩
      case round =>
        obtain ⟨m, lv, ls, on, rfl, hm0, hm3, HLEN, HS, HR2, HC⟩ := hrel
        clear HS3 HC3 HR_w3 HLN3
        have hgz := HR2.out.lt
        have hz4 := HS.out.res.lt
        have hz7 := HS.out.net.lt
        have c0 : wr.cell? ⟨g7, 0, none⟩ = some (.int .i64 (nb : Int)) := HS.out.net.cell 0
        have c1 : wr.cell? ⟨g7, 1, none⟩ = some lv := HS.out.net.cell 1
        have f7 := HS.out.net.frozen
        obtain ⟨lA, lc, hlv⟩ := HS.out.lns.slice
        obtain ⟨oA, oc, hov⟩ := HS.out.ons.slice
        subst hlv hov
        have hlsl : ls.length ≤ 10 := by have := HLEN.out; omega
        have honl : on.length ≤ 10 := by have := HLEN.out; omega
        by_cases hm : 0 < m
        · go_wp2_with fail; ((with_reducible refine (pick_any g (P + 50 - 3 * m) (nb : Int) _ (HR2.out) (by omega) (by omega)).mono ?_); rintro e wa ⟨va, rfl, h0va, h1va, hr_wa, hc_wa⟩); have hz_wa := hc_wa.size; (try simp only [World.size_alloc, World.size_setCell, World.size_drew] at hz_wa); have HR_wa := Lib.hid hr_wa; have HC_wa := Lib.hid hc_wa; clear hr_wa hc_wa
          have HSa := Lib.hid (HS.out.chg HC_wa.out hgl hg1)
          have HCa := Lib.hid (HC.out.trans HC_wa.out)
          have HRd : Hid (RdOk 83 wa.drew g (P + 50 - 3 * m + 1)) := HR_wa.out
          have HSd : Hid (RadW wa.drew w.heap.size g7 (nb : Int) (.slice lA ls.length lc) (.slice oA on.length oc) (.slice (some ⟨q, 0, none⟩) bs.length bc) ls on bs) := HSa.out.drew
          have HCd : Hid (Chg g w wa.drew) := HCa.out.drewL
          clear c0 c1 f7 HC_wa
          have a0 : wa.cell? ⟨g7, 0, none⟩ = some (.int .i64 (nb : Int)) := HSa.out.net.cell 0
          have a1 : wa.cell? ⟨g7, 1, none⟩ = some (.slice lA ls.length lc) := HSa.out.net.cell 1
          have az := HSa.out.net.lt
          have hnz1 : ((nb : Int) == 0) = false := beq_eq_false_iff_ne.2 (by omega)
          have hnz2 : ¬ (nb : Int) = 0 := by omega
          have hnz3 : ¬ nb = 0 := by omega
          have hwa1 : IntKind.i64.wrap (va + 1) = va + 1 := IntWalk.i64_in _ (by omega)
          go_wp2_with fail
          go_region_law
            (first
              | (refine step_app_g (k := 3) (c := r3C) _ (by rfl) _ _ _ rfl 58 (.agg (Array.replicate 3 (.int .i64 0))) 24 Tryd.underlying23 (by kernel_rfl) rfl (by decide) (by decide) r3C_one _ _ _ rfl HV_7.out _ _ _ _ rfl HQ_7.out ?hm ?hlen ?hB ?_; (case hm => (first | rfl | (simp; done) | omega)); (case hlen => (simp only [List.length_cons, List.length_nil]; omega)); (case hB => ((try simp only [World.size_alloc, World.size_drew]); omega)); intro v_7 w_7 hown_7 hg_7 hat_7; have HW_7 : Hid (Below (g7 + 1) (we) w_7) := (Below.alloc (Below.refl _ _) (by first | exact Nat.le_refl _ | omega) _).grown hg_7 (by (try simp only [World.size_alloc]); omega) (fun q hq => (HK_7.out q hq).1); have HG_7 := Lib.hid hg_7; have HAT_7 := Lib.hid hat_7; have HO_7 := Lib.hid hown_7; obtain ⟨A_7, c_7, hv_7⟩ := hown_7.slice; simp only [List.length_append, List.length_cons, List.length_nil, Nat.zero_add] at hv_7; subst hv_7; have hz_7 := HG_7.out.size; (try simp only [World.size_alloc] at hz_7); clear hown_7 hg_7 hat_7 HL_7 HQ_7 HV_7; have HN7 := Lib.hid (HSe.out.netL HG_7.out) ; have cc0 : w_7.cell? ⟨g7, 0, none⟩ = some (.int .i64 (nb : Int)) := HN7.out.cell 0 ; have cc1 : w_7.cell? ⟨g7, 1, none⟩ = some (.slice lA ls.length lc) := HN7.out.cell 1 ; have ff7 := HN7.out.frozen ; have zz7 := HN7.out.lt)
              | (go_simp; go_at_call 33; (with_reducible refine (pick_any g (P + 50 - 3 * m + 1) (n1 : Int) _ (by with_reducible exact HRd.out) (by omega) (by omega)).mono ?_); rintro e wb ⟨vb, rfl, h0b, h1b, hrb, hcb⟩; have HRb := Lib.hid hrb; have HSb := Lib.hid (HSd.out.chg hcb hgl hg1); have HCb := Lib.hid (HCd.out.trans hcb); clear hrb hcb; have b0 : wb.cell? ⟨g7, 0, none⟩ = some (.int .i64 (nb : Int)) := HSb.out.net.cell 0; have b1 : wb.cell? ⟨g7, 1, none⟩ = some (.slice lA ls.length lc) := HSb.out.net.cell 1; have bz := HSb.out.net.lt; have hwb : IntKind.i64.wrap (va + 1 + vb) = va + 1 + vb := IntWalk.i64_in _ (by omega); obtain ⟨rr, hrr⟩ : ∃ rr, (va + 1 + vb).tmod (nb : Int) = rr := ⟨_, rfl⟩)
              | (go_simp; go_at_call 33; (with_reducible refine (pick_any g (P + 50 - 3 * m + 1 + 1) 50 _ (by with_reducible exact HRb.out) (by omega) (by omega)).mono ?_); rintro e we ⟨ve, rfl, h0e, h1e, hre, hce⟩; have HRe := Lib.hid hre; have HSe := Lib.hid (HSb.out.chg hce hgl hg1); have HCe := Lib.hid (HCb.out.trans hce); clear hre hce; have d0 : we.cell? ⟨g7, 0, none⟩ = some (.int .i64 (nb : Int)) := HSe.out.net.cell 0; have d1 : we.cell? ⟨g7, 1, none⟩ = some (.slice lA ls.length lc) := HSe.out.net.cell 1; have dz := HSe.out.net.lt; have hwe : IntKind.i64.wrap (10 + ve) = 10 + ve := IntWalk.i64_in _ (by omega); have hgB : g7 + 1 ≤ we.heap.size := (by omega); have HL_7 := Lib.hid (Own.lit (k := 3) (c := r3C) (B := g7 + 1) we 58 #[.int .i64 va, .int .i64 rr, .int .i64 (10 + ve)] 1 [(⟨va, rr, 10 + ve⟩ : R3)] (by first | exact Nat.le_refl _ | omega) rfl (by omega) rfl); have HQ_7 := Lib.hid (HL_7.out.reads rfl).1; have HV_7 := Lib.hid (Own.alloc (HSe.out.lns) (.cells #[.int .i64 va, .int .i64 rr, .int .i64 (10 + ve)] 58)); have HK_7 := Lib.hid (Own.blk (HSe.out.lns))))
          all_goals
            have HSL : Hid (RadW (w_7.setCell ⟨g7, 1, none⟩ (.slice A_7 (ls.length + 1) c_7)) w.heap.size g7 (nb : Int) (.slice A_7 (ls.length + 1) c_7) (.slice oA on.length oc) (.slice (some ⟨q, 0, none⟩) bs.length bc) (ls ++ [⟨va, rr, 10 + ve⟩]) on bs) := HSe.out.pushL h41 HO_7.out HG_7.out HAT_7.out
            have HRL : Hid (RdOk 83 (w_7.setCell ⟨g7, 1, none⟩ (.slice A_7 (ls.length + 1) c_7)) g (P + 50 - 3 * m + 3)) := ((rdG HRe.out HSe.out.lns hg1 HG_7.out).set_new hg1 _).more (by omega)
            have HCL : Hid (Chg g w (w_7.setCell ⟨g7, 1, none⟩ (.slice A_7 (ls.length + 1) c_7))) := (chG HCe.out HSe.out.lns (by omega) HG_7.out).set_new (by omega) _
            generalize hwL : w_7.setCell ⟨g7, 1, none⟩ (.slice A_7 (ls.length + 1) c_7) = wL at HSL HRL HCL ⊢
            clear hwL cc0 cc1 ff7 zz7 a0 a1 az b0 b1 bz d0 d1 dz hwb hwe hgB hrr hwa1
            have hzL := HSL.out.net.lt
            have hgB : g7 + 1 ≤ wL.heap.size := by omega
            have hgL : g < wL.heap.size := by omega
            have HL_8 := Lib.hid (Own.lit (k := 1) (c := boolC) (B := g7 + 1) wL 4 #[.bool false] 1 [false] (by first | exact Nat.le_refl _ | omega) rfl (by omega) rfl); have HQ_8 := Lib.hid (HL_8.out.reads rfl).1; have HV_8 := Lib.hid (Own.alloc (HSL.out.ons) (.cells #[.bool false] 4)); have HK_8 := Lib.hid (Own.blk (HSL.out.ons)); go_wp2_with (first | (at_builtin; refine wpList_app_g (k := 1) (c := boolC) _ (by rfl) _ _ _ rfl 4 (.bool false) 1 Tryd.underlying26 (by kernel_rfl) rfl (by decide) (by decide) boolC_one _ _ _ rfl HV_8.out _ _ _ _ rfl HQ_8.out ?hm ?hlen ?hB ?_; (case hm => (first | rfl | (simp; done) | omega)); (case hlen => (simp only [List.length_cons, List.length_nil]; omega)); (case hB => ((try simp only [World.size_alloc, World.size_drew]); omega)); intro v_8 w_8 hown_8 hg_8 hat_8; have HW_8 : Hid (Below (g7 + 1) (wL) w_8) := (Below.alloc (Below.refl _ _) (by first | exact Nat.le_refl _ | omega) _).grown hg_8 (by (try simp only [World.size_alloc]); omega) (fun q hq => (HK_8.out q hq).1); have HG_8 := Lib.hid hg_8; have HAT_8 := Lib.hid hat_8; have HO_8 := Lib.hid hown_8; obtain ⟨A_8, c_8, hv_8⟩ := hown_8.slice; simp only [List.length_append, List.length_cons, List.length_nil, Nat.zero_add] at hv_8; subst hv_8; have hz_8 := HG_8.out.size; (try simp only [World.size_alloc] at hz_8); clear hown_8 hg_8 hat_8 HL_8 HQ_8 HV_8))
            refine ⟨⟨m - 1, _, _, _, by go_num, by omega, by omega, ⟨by have := HLEN.out; simp; omega, by have := HLEN.out; simp; omega, by have := HLEN.out; simp; omega⟩, HSL.out.pushO h41 HO_8.out HG_8.out HAT_8.out, ?_, chG HCL.out HSL.out.ons (by omega) HG_8.out⟩, by simp [intOf]; omega⟩
            exact (rdG HRL.out HSL.out.ons hg1 HG_8.out).more (by omega)
        · have hbl := HBS.out
          have hb0 : 0 < bs.length := by omega
          have hb1 : 1 < bs.length := by omega
          have hb7 : bs.length ≤ 7 := by omega
          have ho0 : 0 < on.length := by have := HLEN.out; omega
          obtain ⟨qo, cpo, hqo⟩ := HS.out.ons.some_at ho0 (by omega)
          injection hqo with hqo1 hqo2 hqo3; subst hqo1 hqo3
          have hne : ¬ q = qo := fun e => HS.out.ob qo rfl (by rw [e]; rfl)
          have hne2 : ¬ qo = q := fun e => hne e.symm
          have hcapB := HS.out.bss.cap rfl
          unfold maxLen at hcapB
          have hcap1 : (bs.length : Int) ≤ (bc : Int) := by omega
          have hcap2 : (1 : Int) ≤ (bs.length : Int) := by omega
          have hcap3 : ¬ ((bc : Int) = 1) := by omega
          clear hcapB hbl
          have hlsl20 : ls.length ≤ 20 := by omega
          have hoN : n1 ≤ on.length := by have := HLEN.out; omega
          go_wp2_with fail; ((with_reducible refine (pick_any g (P + 50 - 3 * m) 100 _ (HR2.out) (by omega) (by omega)).mono ?_); rintro e wa ⟨va, rfl, h0va, h1va, hr_wa, hc_wa⟩); have hz_wa := hc_wa.size; (try simp only [World.size_alloc, World.size_setCell, World.size_drew] at hz_wa); have HR_wa := Lib.hid hr_wa; have HC_wa := Lib.hid hc_wa; clear hr_wa hc_wa
          have HSa := Lib.hid (HS.out.chg HC_wa.out hgl hg1)
          have HCa := Lib.hid (HC.out.trans HC_wa.out)
          obtain ⟨hq7, hqz, hqf, ⟨cv, hqc⟩, bs1, hl1, hS1⟩ := HSa.out.setB h41 (i := 0) hb0 (60 + va)
          have qc : wa.cell? ⟨q, 0, none⟩ = some cv := hqc
          have HSA : Hid (RadW (wa.setCell ⟨q, 0, none⟩ (.int .i64 (60 + va))) w.heap.size g7 (nb : Int) (.slice lA ls.length lc) (.slice (some ⟨qo, 0, none⟩) on.length oc) (.slice (some ⟨q, 0, none⟩) bs.length bc) ls on bs1) := hS1
          have HRA : Hid (RdOk 83 (wa.setCell ⟨q, 0, none⟩ (.int .i64 (60 + va))) g (P + 51)) := (HR_wa.out.set_new (by omega) _).more (by omega)
          have HCA : Hid (Chg g w (wa.setCell ⟨q, 0, none⟩ (.int .i64 (60 + va)))) := HCa.out.set_new (by omega) _
          have hgq : g < q := by omega
          have hwq : w.heap.size ≤ q := by omega
          have hbI : (0 : Int) < (bs.length : Int) := by omega
          have HL1 := Lib.hid hl1
          clear hS1 hqc HSa HCa HC_wa HS HR2 HC c0 c1 f7 hl1
          go_wp2_with fail; ((with_reducible refine (pick_any g (P + 51) 2 _ (HRA.out) (by omega) (by omega)).mono ?_); rintro e wb ⟨vb, rfl, h0vb, h1vb, hr_wb, hc_wb⟩); have hz_wb := hc_wb.size; (try simp only [World.size_alloc, World.size_setCell, World.size_drew] at hz_wb); have HR_wb := Lib.hid hr_wb; have HC_wb := Lib.hid hc_wb; clear hr_wb hc_wb
          have HSb := Lib.hid (HSA.out.chg HC_wb.out hgl hg1)
          have HCb := Lib.hid (HCA.out.trans HC_wb.out)
          clear qc hqf HSA HRA HCA HC_wb hz_wa hz_wb hqz hgz hz4 hz7
          have hgz := HR_wb.out.lt
          have hz7 := HSb.out.net.lt
          go_upto_if 103 with fail
          go_cut [] (fun wx => ∃ (on2 : List Bool) (bs2 : List R2), Hid (on2.length = on.length ∧ bs2.length = bs.length) ∧ Hid (RadW wx w.heap.size g7 (nb : Int) (.slice lA ls.length lc) (.slice (some ⟨qo, 0, none⟩) on.length oc) (.slice (some ⟨q, 0, none⟩) bs.length bc) ls on2 bs2) ∧ Hid (RdOk 83 wx g (P + 60)) ∧ Hid (Chg g w wx))
          case first =>
            by_cases hv : vb = 0
            · have e1 : (vb == 0) = true := by simp [hv]
              clear hv
              have c0 : wb.cell? ⟨g7, 0, none⟩ = some (.int .i64 (nb : Int)) := HSb.out.net.cell 0
              have hi1 := HI.out.1
              go_wp2_with fail; ((with_reducible refine (pick_any g (P + 51 + 1) (n1 : Int) _ (HR_wb.out) (by omega) (by omega)).mono ?_); rintro e wd ⟨vd, rfl, h0vd, h1vd, hr_wd, hc_wd⟩); have hz_wd := hc_wd.size; (try simp only [World.size_alloc, World.size_setCell, World.size_drew] at hz_wd); have HR_wd := Lib.hid hr_wd; have HC_wd := Lib.hid hc_wd; clear hr_wd hc_wd
              have HSd := Lib.hid (HSb.out.chg HC_wd.out hgl hg1)
              have HCd := Lib.hid (HCb.out.trans HC_wd.out)
              obtain ⟨kn, hkn⟩ : ∃ kn : Nat, 1 + vd = (kn : Int) := ⟨(1 + vd).toNat, by omega⟩
              have hk1 : 1 ≤ kn := by omega
              have hk2 : kn ≤ n1 := by omega
              have hwk : IntKind.i64.wrap (1 + vd) = (kn : Int) := by rw [IntWalk.i64_in _ (by omega)]; exact hkn
              clear c0 hi1 HC_wd h0vd h1vd hz_wd
              have hgd := HR_wd.out.lt
              go_wp2_with fail; ((with_reducible refine (pick_any g (P + 51 + 1 + 1) 60 _ (HR_wd.out) (by omega) (by omega)).mono ?_); rintro e we ⟨ve, rfl, h0ve, h1ve, hr_we, hc_we⟩); have hz_we := hc_we.size; (try simp only [World.size_alloc, World.size_setCell, World.size_drew] at hz_we); have HR_we := Lib.hid hr_we; have HC_we := Lib.hid hc_we; clear hr_we hc_we
              have HSe := Lib.hid (HSd.out.chg HC_we.out hgl hg1)
              have HCe := Lib.hid (HCd.out.trans HC_we.out)
              obtain ⟨k0, hk0⟩ : ∃ k0, k0 + 1 = kn := ⟨kn - 1, by omega⟩
              have hk0e : (kn : Int) - 1 = (k0 : Int) := by omega
              have hknb : kn < bs1.length := by have := HBS.out; rw [HL1.out]; omega
              have hk0o : k0 < on.length := by omega
              obtain ⟨_, hqz, hqf, ⟨cv, hqc⟩, bs2, hl2, hS2⟩ := HSe.out.setB h41 (i := kn) hknb (30 + ve)
              obtain ⟨g', hg'e, _, _, hoc, _⟩ := HSe.out.ons.at1 hk0o
              injection hg'e with hg'e; injection hg'e with hg'e; subst hg'e
              obtain ⟨_, hoz, hof, _, hS3⟩ := RadW.setO hS2 h41 (i := k0) hk0o false
              have hqo7 : g7 < qo := by omega
              obtain ⟨bo, hbo⟩ : ∃ bo, boolC on[k0] 0 = bo := ⟨_, rfl⟩
              rw [hbo] at hoc
              clear hbo
              have hoz2 : qo < we.heap.size := by simpa using hoz
              have hof2 : ∀ j, we.frozen? ⟨qo, j, none⟩ = false := (fun j => by have := HSe.out.ons.at1 hk0o; obtain ⟨g3, e3, _, _, _, f3⟩ := this; injection e3 with e3; injection e3 with e3; subst e3; exact f3 j)
              have hka : (kn : Int) < (bs.length : Int) := by have := HBS.out; omega
              have hkb : (0 : Int) ≤ (kn : Int) := by omega
              have hkc : (k0 : Int) < (on.length : Int) := by omega
              have hkd : (0 : Int) ≤ (k0 : Int) := by omega
              have HS3 := Lib.hid hS3; have HL2 := Lib.hid hl2
              clear hS2 hS3 hl2 hof
              go_wp2_with fail
              go_meet
              exact ⟨_, bs2, ⟨by simp, by rw [HL2.out, HL1.out]⟩, HS3, (((HR_we.out.set_new hgq _).set_new (by omega) _).more (by omega)), ((HCe.out.set_new hwq _).set_new (by omega) _)⟩
            · have e1 : (vb == 0) = false := by simp [hv]
              clear hv
              go_wp2_with fail
              go_meet
              exact ⟨on, bs1, ⟨rfl, HL1.out⟩, HSb, HR_wb.out.more (by omega), HCb⟩
          case rest =>
            obtain ⟨on2, bs2, HL2, HS2, HRx, HCx⟩ := hcut
            clear HSb HCb HR_wb HL1 hgz hz7
            have hodd := odd_any g (P + 60) n wc HRx.out (by omega) (by omega) hn0
            go_wp2_with fail
            refine hodd.mono ?_
            clear hodd
            rintro e w5 ⟨bo, rfl, hr5, hc5⟩
            have HR5 := Lib.hid hr5
            have HS5 := Lib.hid (HS2.out.chg hc5 hgl hg1)
            have HC5 := Lib.hid (HCx.out.trans hc5)
            clear hr5 hc5 HS2 HRx HCx
            have hgz := HR5.out.lt
            have honl2 : on2.length ≤ 20 := by rw [HL2.out.1]; omega
            have hbsl2 : bs2.length ≤ 20 := by rw [HL2.out.2]; omega
            go_upto_if 123 with fail
            go_cut [8, 9] (fun t8 t9 wx => ∃ (oA9 : Option Addr) (on9 oc9 : Nat) (bA9 : Option Addr) (bn9 bc9 : Nat) (bv9 : Value) (on4 : List Bool) (bs5 bs6 : List R2), t8 = .slice oA9 on9 oc9 ∧ t9 = .slice bA9 bn9 bc9 ∧ Hid (RadW wx w.heap.size g7 (nb : Int) (.slice lA ls.length lc) (.slice oA9 on9 oc9) bv9 ls on4 bs5) ∧ Hid (DrS 2 r2C wx (g7 + 1) (.slice bA9 bn9 bc9) bs6) ∧ Hid (on4.length ≤ 20 ∧ bs6.length ≤ 20) ∧ Hid (RdOk 83 wx g (P + 100)) ∧ Hid (Chg g w wx))
            case rest =>
              obtain ⟨oA9, on9, oc9, bA9, bn9, bc9, bv9, on4, bs5, bs6, rfl, rfl, HS9, HD9, HL9, HR9, HC9⟩ := hcut
              clear HS5 HC5 HR5
              have F2 := HS9.out.res.cell
              have F3 := HS9.out.res.frozen
              have F4 := HS9.out.res.lt
              have F5 : wc.cell? ⟨g7, 0, none⟩ = some (.int .i64 (nb : Int)) := HS9.out.net.cell 0
              have F6 : wc.cell? ⟨g7, 1, none⟩ = some (.slice lA ls.length lc) := HS9.out.net.cell 1
              have F7 : wc.cell? ⟨w.heap.size, 0, none⟩ = some (.int .i64 0) := F2 0
              have F8 : wc.cell? ⟨w.heap.size, 1, none⟩ = some (.slice none 0 0) := F2 1
              obtain ⟨honl9, hbl9⟩ := HL9.out
              clear F2
              go_wp2_with fail
              refine bodyPost_ret (v := .tuple #[.agg #[.int .i64 (nb : Int), .slice lA ls.length lc], .slice oA9 on9 oc9, .slice bA9 bn9 bc9]) (by simp [results, Tryd.results31, go_sem, F3, F4, F7, F8]; try rfl) rfl ?_
              exact rad_fin HS9.out HD9.out HR9.out (Int.le_refl _) HC9.out hgl h41 hnb2 hnb7 hlsl20 honl9 hbl9
            cases bo with
            | false =>
              go_wp2_with fail
              go_meet
              exact ⟨_, _, _, _, _, _, _, _, _, _, rfl, rfl, HS5, HS5.out.bss.drs, ⟨honl2, hbsl2⟩, HR5.out.more (by omega), HC5⟩
            | true =>
              go_wp2_with fail; ((with_reducible refine (pick_any g (P + 60 + 1) 4 _ (HR5.out) (by omega) (by omega)).mono ?_); rintro e w6 ⟨v6, rfl, h0v6, h1v6, hr_w6, hc_w6⟩); have hz_w6 := hc_w6.size; (try simp only [World.size_alloc, World.size_setCell, World.size_drew] at hz_w6); have HR_w6 := Lib.hid hr_w6; have HC_w6 := Lib.hid hc_w6; clear hr_w6 hc_w6
              have HS6 := Lib.hid (HS5.out.chg HC_w6.out hgl hg1)
              have HC6 := Lib.hid (HC5.out.trans HC_w6.out)
              clear HS5 HC5 HR5 HC_w6 hz_w6 hgz
              have hgz := HR_w6.out.lt
              have hz7 := HS6.out.net.lt
              have hv4 : v6 = 0 ∨ v6 = 1 ∨ v6 = 2 ∨ v6 = 3 := by omega
              rcases hv4 with rfl | rfl | rfl | rfl
              · obtain ⟨n2, hn2⟩ : ∃ n2, n2 + 1 = n1 := ⟨n1 - 1, by omega⟩
                have hi1 := HI.out.1
                have hi2 : (nb : Int) - 2 = (n2 : Int) := by omega
                have hj2 : IntKind.i64.wrap ((nb : Int) - 2) = (n2 : Int) := by rw [IntWalk.i64_in _ (by omega)]; exact hi2
                have c0 : w6.cell? ⟨g7, 0, none⟩ = some (.int .i64 (nb : Int)) := HS6.out.net.cell 0
                have hb2l := HL2.out.2
                have hbE := HBS.out
                have hx1 : n1 < bs2.length := by omega
                have hx2 : n2 < bs2.length := by omega
                have hxa : (n1 : Int) < (bs.length : Int) := by omega
                have hxb : (0 : Int) ≤ (n1 : Int) := by omega
                have hxc : (n2 : Int) < (bs.length : Int) := by omega
                have hxd : (0 : Int) ≤ (n2 : Int) := by omega
                obtain ⟨_, hqz, hqf, ⟨cv, hqc⟩, bs3, hl3, hS3⟩ := HS6.out.setB h41 (i := n1) hx1 5
                obtain ⟨_, _, _, ⟨cu, hqd⟩, _⟩ := HS6.out.setB h41 (i := n2) hx2 5
                obtain ⟨_, _, _, _, bs4, hl4, hS4⟩ := RadW.setB hS3 h41 (i := n2) (by omega) 5
                have hbsl4 : bs4.length ≤ 20 := by omega
                have hnn : ¬ n1 * 2 = n2 * 2 := by omega
                have hnn2 : ¬ n2 * 2 = n1 * 2 := by omega
                have hqg : ¬ q = g7 := by omega
                have hqg2 : ¬ g7 = q := by omega
                have HS4 := Lib.hid hS4
                clear hS3 hS4 hb2l hbE hl3 hl4
                have HR4 : Hid (RdOk 83 ((w6.setCell ⟨q, n1 * 2, none⟩ (.int .i64 5)).setCell ⟨q, n2 * 2, none⟩ (.int .i64 5)) g (P + 62)) := ((HR_w6.out.set_new hgq _).set_new hgq _).more (by omega)
                have HC4 : Hid (Chg g w ((w6.setCell ⟨q, n1 * 2, none⟩ (.int .i64 5)).setCell ⟨q, n2 * 2, none⟩ (.int .i64 5))) := (HC6.out.set_new hwq _).set_new hwq _
                clear hz7 hgz HS6 HC6 HR_w6
                go_wp2_with fail
                go_meet
                exact ⟨_, _, _, _, _, _, _, _, _, _, rfl, rfl, HS4, HS4.out.bss.drs, ⟨honl2, hbsl4⟩, HR4.out.more (by omega), HC4⟩
              · go_wp2_with fail
                go_loopw [15] (fun t wr => ∃ (i : Nat) (on3 : List Bool), t = .int .i64 i ∧ i ≤ on.length ∧ Hid (on3.length = on.length) ∧ Hid (RadW wr w.heap.size g7 (nb : Int) (.slice lA ls.length lc) (.slice (some ⟨qo, 0, none⟩) on.length oc) (.slice (some ⟨q, 0, none⟩) bs.length bc) ls on3 bs2) ∧ Hid (RdOk 83 wr g (P + 62)) ∧ Hid (Chg g w wr)) (fun t _ => on.length - (intOf t).toNat)
                case atStart => exact ⟨0, on2, rfl, Nat.zero_le _, HL2.out.1, HS6, HR_w6.out.more (by omega), HC6⟩
                case round =>
                  obtain ⟨i, on3, rfl, hi, HL3, HS3, HR3, HC3⟩ := hrel
                  clear HS6 HC6 HR_w6 hgz hz7
                  by_cases hit : i < on.length
                  · have hia : (i : Int) < (on.length : Int) := by omega
                    have hib : (0 : Int) ≤ (i : Int) := by omega
                    have hi3 : i < on3.length := by rw [HL3.out]; exact hit
                    obtain ⟨hqo7, hoz, hof, ⟨cv, hoc⟩, hS4⟩ := HS3.out.setO h41 hi3 true
                    have HS4 := Lib.hid hS4
                    clear hS4
                    go_wp2_with fail
                    exact ⟨⟨i + 1, _, by go_num, by omega, by have := HL3.out; unfold Hid; simpa using this, HS4, HR3.out.set_new (by omega) _, HC3.out.set_new (by omega) _⟩, by simp [intOf]; omega⟩
                  · have honl3 : on3.length ≤ 20 := by rw [HL3.out]; omega
                    go_wp2_with fail
                    go_meet
                    exact ⟨_, _, _, _, _, _, _, _, _, _, rfl, rfl, HS3, HS3.out.bss.drs, ⟨honl3, hbsl2⟩, HR3.out.more (by omega), HC3⟩
              · have honl3 : on2.length ≤ 16 := by have := HL2.out.1; omega
                have hgB : g7 + 1 ≤ w6.heap.size := by omega
                have HON : Hid (Own 1 boolC 4 w6 (g7 + 1) (.slice (some ⟨qo, 0, none⟩) on.length oc) on2) := HS6.out.ons
                have HL_8 := Lib.hid (Own.lit (k := 1) (c := boolC) (B := g7 + 1) w6 4 #[.bool false] 1 [false] (by first | exact Nat.le_refl _ | omega) rfl (by omega) rfl); have HQ_8 := Lib.hid (HL_8.out.reads rfl).1; have HV_8 := Lib.hid (Own.alloc (HON.out) (.cells #[.bool false] 4)); have HK_8 := Lib.hid (Own.blk (HON.out)); go_wp2_with (first | (at_builtin; refine wpList_app_g (k := 1) (c := boolC) _ (by rfl) _ _ _ rfl 4 (.bool false) 1 Tryd.underlying26 (by kernel_rfl) rfl (by decide) (by decide) boolC_one _ _ _ rfl HV_8.out _ _ _ _ rfl HQ_8.out ?hm ?hlen ?hB ?_; (case hm => (first | rfl | (simp; done) | omega)); (case hlen => (simp only [List.length_cons, List.length_nil]; omega)); (case hB => ((try simp only [World.size_alloc, World.size_drew]); omega)); intro v_8 w_8 hown_8 hg_8 hat_8; have HW_8 : Hid (Below (g7 + 1) (w6) w_8) := (Below.alloc (Below.refl _ _) (by first | exact Nat.le_refl _ | omega) _).grown hg_8 (by (try simp only [World.size_alloc]); omega) (fun q hq => (HK_8.out q hq).1); have HG_8 := Lib.hid hg_8; have HAT_8 := Lib.hid hat_8; have HO_8 := Lib.hid hown_8; obtain ⟨A_8, c_8, hv_8⟩ := hown_8.slice; simp only [List.length_append, List.length_cons, List.length_nil, Nat.zero_add] at hv_8; subst hv_8; have hz_8 := HG_8.out.size; (try simp only [World.size_alloc] at hz_8); clear hown_8 hg_8 hat_8 HL_8 HQ_8 HV_8))
                have HS7 : Hid (RadW w_8 w.heap.size g7 (nb : Int) (.slice lA ls.length lc) (.slice A_8 (on2.length + 1) c_8) (.slice (some ⟨q, 0, none⟩) bs.length bc) ls (on2 ++ [false]) bs2) := HS6.out.pushO h41 HO_8.out HG_8.out HAT_8.out
                have HR7 : Hid (RdOk 83 w_8 g (P + 62)) := (rdG HR_w6.out HS6.out.ons hg1 HG_8.out).more (by omega)
                have HC7 : Hid (Chg g w w_8) := chG HC6.out HS6.out.ons (by omega) HG_8.out
                have honl7 : (on2 ++ [false]).length ≤ 20 := by simp; omega
                clear HS6 HC6 HR_w6 hgz hz7 HON
                have hgz := HR7.out.lt
                go_meet
                exact ⟨_, _, _, _, _, _, _, _, _, _, rfl, rfl, HS7, HS7.out.bss.drs, ⟨honl7, hbsl2⟩, HR7.out.more (by omega), HC7⟩
              · have HT := HS6.out.bss.drs.tail (by omega)
                have HT2 := Lib.hid HT; clear HT
                have htl : bs2.tail.length ≤ 20 := by rw [List.length_tail]; omega
                go_wp2_with fail
                go_meet
                exact ⟨_, _, _, _, _, _, _, _, _, _, rfl, rfl, HS6, HT2.out, ⟨honl2, htl⟩, HR_w6.out.more (by omega), HC6⟩
end Go.Proofs.YtdfgdeccejcpfaaDoor
