/- Drawing units with ramps and outputs. -/
import Derived.Test.YtcpopbkcphpdfaaDoorDrP
import Derived.Deep.DeepCutAuto
import Derived.Deep.CutBlock
namespace Go.Proofs.YtcpopbkcphpdfaaDoor
open Go.RowKit Go.Deep
set_option linter.unusedSimpArgs false
set_option linter.unusedVariables false

/-- Units, ramps and outputs were drawn. -/
def DrawnM (g : Nat) (P : Int) (w : World) (e : Ending) (w' : World) : Prop :=
  ∃ (A1 A2 A3 : Option Addr) (c1 c2 c3 : Nat) (us : List R4) (rs ys : List Int), e = .returned (.tuple #[.slice A1 us.length c1, .slice A2 rs.length c2, .slice A3 ys.length c3]) ∧ 1 ≤ us.length ∧ us.length ≤ 7 ∧ (∀ x ∈ us, SmU x) ∧ rs.length = us.length ∧ (∀ r ∈ rs, -1 ≤ r ∧ r ≤ 1000) ∧ ys.length ≤ 7 ∧ (∀ y ∈ ys, -10 ≤ y ∧ y ≤ 200) ∧
    DrS 4 r4C w' w.heap.size (.slice A1 us.length c1) us ∧ DrS 1 intC w' w.heap.size (.slice A2 rs.length c2) rs ∧ DrS 1 intC w' w.heap.size (.slice A3 ys.length c3) ys ∧ RdOk 94 w' g (P + 100) ∧ Chg g w w'

set_option maxRecDepth 100000 in
set_option maxHeartbeats 8000000 in
theorem l20Ramped_any (g : Nat) (P n : Int) (w : World) (hr : RdOk 94 w g P) (hP : P ≤ 800000) (hn : n ≤ 100) (hn0 : 0 ≤ n) :
    Calls Tryd.prog 65 #[.pointer (some ⟨g, 0, none⟩), .int .i64 n] w (DrawnM g P w) := by
  have hgl := hr.lt
  have HR := Lib.hid hr; clear hr
  have hw2 : IntKind.i64.wrap (2 * n) = 2 * n := IntWalk.i64_in _ (by omega)
  have HODD : Hid (∀ (Q : Int) (W : World), Q ≤ 1000000 → RdOk 94 W g Q → Calls Tryd.prog 77 #[.pointer (some ⟨g, 0, none⟩), .int .i64 (2 * n)] W (OddP 94 g Q W)) := fun Q W hQ h => odd_any g Q (2 * n) W h hQ (by omega) (by omega)
  have HOUT : Hid (∀ (A : Option Addr) (c : Nat) (xs : List R4) (W : World), RdOk 94 W g (P + 40) → DrS 4 r4C W w.heap.size (.slice A xs.length c) xs → xs.length ≤ 7 → (∀ x ∈ xs, SmU x) → Calls Tryd.prog 64 #[.pointer (some ⟨g, 0, none⟩), .slice A xs.length c, .int .i64 (2 * n)] W (DrawnI g (P + 40) W)) := fun A c xs W h1 h2 h3 h4 => l20Outputs_any g (P + 40) (2 * n) A c xs w.heap.size W h1 h2 hgl h3 h4 (by omega) (by omega) (by omega)
  have HUN := Lib.hid (l20Units_any g P (2 * n) w HR.out (by omega) (by omega) (by omega))
  go_enter Tryd.func65, Tryd.ntmps65
  go_wp2_with fail
  with_reducible refine HUN.out.mono ?_
  rintro e w2 ⟨v, xs, rfl, h7, hs, hd, hr2, hc2⟩
  have HD := Lib.hid hd
  obtain ⟨Ax, cx, rfl, _⟩ := hd
  have HR2 := Lib.hid hr2; have HS := Lib.hid hs; have HC2 := Lib.hid hc2
  clear hs hc2 hr2 HUN
  have hz2 := HC2.out.size
  obtain ⟨z0, hz0⟩ : ∃ z0 : Bool, ((xs.length : Int) == 0) = z0 := ⟨_, rfl⟩
  go_upto_if 17 with fail
  go_cut [7] (fun t wx => ∃ (A : Option Addr) (c : Nat) (us : List R4), t = .slice A us.length c ∧ 1 ≤ us.length ∧ us.length ≤ 7 ∧ Hid (∀ x ∈ us, SmU x) ∧ Hid (DrS 4 r4C wx w.heap.size (.slice A us.length c) us) ∧ Hid (RdOk 94 wx g (P + 40)) ∧ Hid (Chg g w wx))
  case first =>
    by_cases h0 : xs.length = 0
    · have hz : z0 = true := by rw [← hz0]; simp [h0]
      clear hz0
      subst hz
      go_wp2_with fail
      go_meet
      refine ⟨some ⟨w2.heap.size, 0, none⟩, 2, [⟨1, 9, 4, 0⟩, ⟨0, 12, 2, 3⟩], rfl, by simp, by simp, ?_, ?_, HR2.out.alloc _, HC2.out.alloc _⟩
      · intro x hx
        simp only [List.mem_cons, List.not_mem_nil, or_false] at hx
        rcases hx with rfl | rfl <;> (unfold SmU; simp only; omega)
      · exact (Own.lit (k := 4) (c := r4C) (B := w.heap.size) w2 27 #[.int .i64 1, .int .i64 9, .int .i64 4, .int .i64 0, .int .i64 0, .int .i64 12, .int .i64 2, .int .i64 3] 2 [(⟨1, 9, 4, 0⟩ : R4), ⟨0, 12, 2, 3⟩] hz2 rfl (by omega) rfl).drs
    · have hz : z0 = false := by rw [← hz0]; simp [h0]
      have h01 : 1 ≤ xs.length := by omega
      clear h0 hz0
      subst hz
      go_wp2_with fail
      go_meet
      exact ⟨Ax, cx, xs, rfl, h01, h7, HS, HD.out.mono (by omega), HR2, HC2⟩
  case rest =>
    obtain ⟨A1, c1, us, rfl, hu1, hu7, HSU, HDU, HR3, HC3⟩ := hcut
    clear HD HR2 HC2 HS hz2 h7
    have hzc := HC3.out.size
    go_wp2_with fail
    with_reducible refine (HOUT.out A1 c1 us wc HR3.out HDU.out hu7 HSU.out).mono ?_
    rintro e w3 ⟨v3, ys, rfl, h73, hy3, hd3, hr3, hc3⟩
    have HDY := Lib.hid hd3; have HY := Lib.hid hy3; have HR4 := Lib.hid hr3
    have HDU3 := Lib.hid (HDU.out.chg hc3 hgl)
    have HC4 := Lib.hid (HC3.out.trans hc3)
    have hz3 := hc3.size
    obtain ⟨A3, c3, rfl, _⟩ := hd3
    clear hr3 hc3 hy3
    go_wp2_with fail
    go_loopw [9, 10] (fun t u wr => ∃ (rs : List Int) (vA : Option Addr) (vc : Nat), u = .int .i64 rs.length ∧ rs.length ≤ us.length ∧ t = .slice vA rs.length vc ∧ Hid (∀ r ∈ rs, 0 ≤ r ∧ r ≤ 6) ∧ Hid (RdOk 94 wr g (P + 60 + rs.length)) ∧ Hid (Chg g w3 wr) ∧ Hid (Own 1 intC 3 wr w3.heap.size (.slice vA rs.length vc) rs)) (fun _ u _ => us.length - (intOf u).toNat)
    case atStart => exact ⟨[], _, _, rfl, Nat.zero_le _, rfl, (by unfold Hid; simp), (HR4.out.alloc _).more (by simp; omega), (Chg.refl g w3).alloc _, Own.lit (k := 1) (c := intC) (B := w3.heap.size) w3 3 #[] 0 [] (Nat.le_refl _) rfl (by omega) rfl⟩
    case round =>
      obtain ⟨rs, vA, vc, rfl, hi, rfl, HRS, HRr, HC, HV⟩ := hrel
      have hzw := HC.out.size
      have hgz3 : g < w3.heap.size := by omega
      have hgz : g < wr.heap.size := by omega
      by_cases hlt : rs.length < us.length
      · go_wp2_with fail; ((with_reducible refine (pick_any g (P + 60 + rs.length) 7 _ (HRr.out) (by omega) (by omega)).mono ?_); rintro e w4 ⟨v, rfl, h0v, h1v, hr_w4, hc_w4⟩); have hz_w4 := hc_w4.size; (try simp only [World.size_alloc, World.size_setCell, World.size_drew] at hz_w4); have HR_w4 := Lib.hid hr_w4; have HC_w4 := Lib.hid hc_w4; clear hr_w4 hc_w4
        have HV2 := Lib.hid (HV.out.chg HC_w4.out hgz3)
        have HC5 := Lib.hid (HC.out.trans HC_w4.out)
        have hz5 := HC5.out.size
        have HL_5 := Lib.hid (Own.lit (k := 1) (c := intC) (B := w3.heap.size) w4 3 #[.int .i64 v] 1 [v] (by first | exact Nat.le_refl _ | omega) rfl (by omega) rfl); have HQ_5 := Lib.hid (HL_5.out.reads rfl).1; have HV_5 := Lib.hid (Own.alloc (HV2.out) (.cells #[.int .i64 v] 3)); have HK_5 := Lib.hid (Own.blk (HV2.out)); go_wp2_with (first | (at_builtin; refine wpList_app_g (k := 1) (c := intC) _ (by rfl) _ _ _ rfl 3 (.int .i64 0) 8 Tryd.underlying30 (by kernel_rfl) rfl (by decide) (by decide) intC_one _ _ _ rfl HV_5.out _ _ _ _ rfl HQ_5.out ?hm ?hlen ?hB ?_; (case hm => (first | rfl | (simp; done) | omega)); (case hlen => (simp only [List.length_cons, List.length_nil]; omega)); (case hB => ((try simp only [World.size_alloc, World.size_drew]); omega)); intro v_5 w_5 hown_5 hg_5 hat_5; have HW_5 : Hid (Below (w3.heap.size) (w4) w_5) := (Below.alloc (Below.refl _ _) (by first | exact Nat.le_refl _ | omega) _).grown hg_5 (by (try simp only [World.size_alloc]); omega) (fun q hq => (HK_5.out q hq).1); have HG_5 := Lib.hid hg_5; have HAT_5 := Lib.hid hat_5; have HO_5 := Lib.hid hown_5; obtain ⟨A_5, c_5, hv_5⟩ := hown_5.slice; simp only [List.length_append, List.length_cons, List.length_nil, Nat.zero_add] at hv_5; subst hv_5; have hz_5 := HG_5.out.size; (try simp only [World.size_alloc] at hz_5); clear hown_5 hg_5 hat_5 HL_5 HQ_5 HV_5))
        have HC6 := Lib.hid ((HC5.out.alloc _).grown HG_5.out (fun q hq => (HK_5.out q hq).1))
        have HR6 := Lib.hid ((HR_w4.out.alloc (.cells #[.int .i64 v] 3)).grown HG_5.out (fun q hq => by have := (HK_5.out q hq).1; omega))
        refine ⟨⟨rs ++ [v], A_5, c_5, by rw [List.length_append]; go_num, by simp; omega, by simp, ?_, HR6.out.more (by simp; omega), HC6, ?_⟩, by simp [intOf]; omega⟩
        · intro r hr
          rcases List.mem_append.1 hr with hr | hr
          · exact HRS.out r hr
          · simp at hr; subst hr; omega
        · have := HO_5.out
          unfold Hid
          rw [List.length_append]; exact this
      · have hrl : rs.length = us.length := by omega
        have HRL := Lib.hid hrl
        have h1r : 0 < rs.length := by omega
        clear hrl
        go_wp2_with fail
        with_reducible refine (HODD.out (P + 60 + rs.length) wr (by omega) HRr.out).mono ?_
        rintro e w4 ⟨bo, rfl, hr4, hc4⟩
        have HRa := Lib.hid hr4
        have HV1 := Lib.hid (HV.out.chg hc4 hgz3)
        have HCW : Hid (Chg g w3 w4) := HC.out.trans hc4
        have hzw4 := HCW.out.size
        have hgz4 : g < w4.heap.size := by omega
        clear hr4 hc4
        have hrb : ∀ r ∈ rs, -1 ≤ r ∧ r ≤ 1000 := fun r hr => by have := HRS.out r hr; omega
        have HRB := Lib.hid hrb; clear hrb
        cases bo with
        | false =>
          go_wp2_with fail
          refine bodyPost_ret (by simp [results, Tryd.results65, go_sem]; try rfl) rfl ?_
          exact ⟨_, _, _, _, _, _, us, rs, ys, rfl, hu1, hu7, HSU.out, HRL.out, HRB.out, h73, HY.out, HDU3.out.chg HCW.out hgl, (HV1.out.drs).mono (by omega), (HDY.out.chg HCW.out (by omega)).mono (by omega), HRa.out.more (by omega), HC4.out.trans HCW.out⟩
        | true =>
          go_wp2_with fail; ((with_reducible refine (pick_any g (P + 60 + rs.length + 1) 2 _ (HRa.out.alloc _) (by omega) (by omega)).mono ?_); rintro e w5 ⟨u, rfl, h0u, h1u, hr_w5, hc_w5⟩); have cB0_w5 := Chg.cell hc_w5 (b := w4.heap.size) (by go_size) (by omega); have fB0_w5 := Chg.frozen hc_w5 (b := w4.heap.size) (by go_size) (by omega); have zB0_w5 : w4.heap.size < w5.heap.size := Nat.lt_of_lt_of_le (by go_size) hc_w5.size; have hz_w5 := hc_w5.size; (try simp only [World.size_alloc, World.size_setCell, World.size_drew] at hz_w5); have HR_w5 := Lib.hid hr_w5; have HC_w5 := Lib.hid hc_w5; clear hr_w5 hc_w5
          have HV2 := Lib.hid ((HV1.out.alloc (.cells #[.int .i64 (-1), .int .i64 1000] 3)).chg HC_w5.out hgz3)
          have HCX : Hid (Chg g w3 w5) := (HCW.out.alloc _).trans HC_w5.out
          obtain ⟨gv, rfl, hgv, hgz5, d0, df⟩ := HV2.out.at1 h1r
          have df0 := df 0
          have hz5 := HCX.out.size
          have hvne : gv ≠ w4.heap.size := by
            have := (HV1.out.blk gv rfl).2; omega
          have hu : u = 0 ∨ u = 1 := by omega
          have h0r : (0 : Int) < (rs.length : Int) := by omega
          rcases hu with rfl | rfl
          · go_wp2_with fail
            refine bodyPost_ret (by simp [results, Tryd.results65, go_sem]; try rfl) rfl ?_
            have hcx := HCX.out.set_new (i := 0) hgv (.int .i64 (-1))
            refine ⟨_, _, _, _, _, _, us, rs.set 0 (-1), ys, by rw [List.length_set], hu1, hu7, HSU.out, by rw [List.length_set]; exact HRL.out, ?_, h73, HY.out, HDU3.out.chg hcx hgl, ?_, (HDY.out.chg hcx (by omega)).mono (by omega), (HR_w5.out.set_new (by omega) _).more (by omega), HC4.out.trans hcx⟩
            · intro r hr
              rcases List.mem_or_eq_of_mem_set hr with hr | rfl
              · exact HRB.out r hr
              · omega
            · have := (HV2.out.set1 h1r (-1)).drs.mono (show w.heap.size ≤ w3.heap.size by omega)
              rw [List.length_set]; exact this
          · go_wp2_with fail
            refine bodyPost_ret (by simp [results, Tryd.results65, go_sem]; try rfl) rfl ?_
            have hcx := HCX.out.set_new (i := 0) hgv (.int .i64 1000)
            refine ⟨_, _, _, _, _, _, us, rs.set 0 1000, ys, by rw [List.length_set], hu1, hu7, HSU.out, by rw [List.length_set]; exact HRL.out, ?_, h73, HY.out, HDU3.out.chg hcx hgl, ?_, (HDY.out.chg hcx (by omega)).mono (by omega), (HR_w5.out.set_new (by omega) _).more (by omega), HC4.out.trans hcx⟩
            · intro r hr
              rcases List.mem_or_eq_of_mem_set hr with hr | rfl
              · exact HRB.out r hr
              · omega
            · have := (HV2.out.set1 h1r 1000).drs.mono (show w.heap.size ≤ w3.heap.size by omega)
              rw [List.length_set]; exact this
end Go.Proofs.YtcpopbkcphpdfaaDoor
