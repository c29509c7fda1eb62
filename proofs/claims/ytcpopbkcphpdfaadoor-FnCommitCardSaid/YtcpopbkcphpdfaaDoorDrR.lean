/- Drawing which units run. -/
import Derived.Test.YtcpopbkcphpdfaaDoorDrP
import Derived.Test.YtcpopbkcphpdfaaDoorCom
namespace Go.Proofs.YtcpopbkcphpdfaaDoor
open Go.RowKit Go.Deep
set_option linter.unusedSimpArgs false
set_option linter.unusedVariables false

/-- Bools were drawn. -/
def DrawnB (g : Nat) (P : Int) (w : World) (e : Ending) (w' : World) : Prop :=
  ∃ v ys, e = .returned v ∧ ys.length ≤ 8 ∧ DrS 1 boolC w' w.heap.size v ys ∧ RdOk 94 w' g (P + 20) ∧ Chg g w w'
set_option maxRecDepth 100000 in
set_option maxHeartbeats 8000000 in
theorem l20Running_any (g : Nat) (P n : Int) (A : Option Addr) (m c : Nat) (w : World) (hr : RdOk 94 w g P) (h7 : m ≤ 7) (hP : P ≤ 900000) (hn : n ≤ 1000) (hn0 : 0 ≤ n) :
    Calls Tryd.prog 73 #[.pointer (some ⟨g, 0, none⟩), .slice A m c, .int .i64 n] w (DrawnB g P w) := by
  have hgl := hr.lt
  have HR := Lib.hid hr; clear hr
  go_enter Tryd.func73, Tryd.ntmps73
  go_wp2_with fail
  go_loopw [7, 8] (fun t u wr => ∃ (ys : List Bool) (vA : Option Addr) (vc : Nat), u = .int .i64 ys.length ∧ ys.length ≤ m ∧ t = .slice vA ys.length vc ∧ Hid (RdOk 94 wr g (P + ys.length)) ∧ Hid (Chg g w wr) ∧ Hid (Own 1 boolC 4 wr w.heap.size (.slice vA ys.length vc) ys)) (fun _ u _ => m - (intOf u).toNat)
  case atStart => exact ⟨[], _, _, rfl, Nat.zero_le _, rfl, (HR.out.alloc _).more (by simp), (Chg.refl g w).alloc _, Own.lit (k := 1) (c := boolC) (B := w.heap.size) w 4 #[] 0 [] (Nat.le_refl _) rfl (by omega) rfl⟩
  case round =>
    obtain ⟨ys, vA, vc, rfl, hi, rfl, HR2, HC, HV⟩ := hrel
    have hzw := HC.out.size
    have hgz : g < wr.heap.size := by omega
    by_cases hlt : ys.length < m
    · go_wp2_with fail; ((with_reducible refine (pick_any g (P + ys.length) 3 _ (HR2.out) (by omega) (by omega)).mono ?_); rintro e w2 ⟨v, rfl, h0v, h1v, hr_w2, hc_w2⟩); have hz_w2 := hc_w2.size; (try simp only [World.size_alloc, World.size_setCell, World.size_drew] at hz_w2); have HR_w2 := Lib.hid hr_w2; have HC_w2 := Lib.hid hc_w2; clear hr_w2 hc_w2
      have HV2 := Lib.hid (HV.out.chg HC_w2.out (by omega))
      have HC2 := Lib.hid (HC.out.trans HC_w2.out)
      have hz2 := HC2.out.size
      have HL_3 := Lib.hid (Own.lit (k := 1) (c := boolC) (B := w.heap.size) w2 4 #[.bool (decide (0 < v))] 1 [decide (0 < v)] (by first | exact Nat.le_refl _ | omega) rfl (by omega) rfl); have HQ_3 := Lib.hid (HL_3.out.reads rfl).1; have HV_3 := Lib.hid (Own.alloc (HV2.out) (.cells #[.bool (decide (0 < v))] 4)); have HK_3 := Lib.hid (Own.blk (HV2.out)); go_wp2_with (first | (at_builtin; refine wpList_app_g (k := 1) (c := boolC) _ (by rfl) _ _ _ rfl 4 (.bool false) 1 Tryd.underlying50 (by kernel_rfl) rfl (by decide) (by decide) boolC_one _ _ _ rfl HV_3.out _ _ _ _ rfl HQ_3.out ?hm ?hlen ?hB ?_; (case hm => (first | rfl | (simp; done) | omega)); (case hlen => (simp only [List.length_cons, List.length_nil]; omega)); (case hB => ((try simp only [World.size_alloc]); omega)); intro v_3 w_3 hown_3 hg_3 hat_3; have HW_3 : Hid (Below (w.heap.size) (w2) w_3) := (Below.alloc (Below.refl _ _) (by first | exact Nat.le_refl _ | omega) _).grown hg_3 (by (try simp only [World.size_alloc]); omega) (fun q hq => (HK_3.out q hq).1); have HG_3 := Lib.hid hg_3; have HO_3 := Lib.hid hown_3; obtain ⟨A_3, c_3, hv_3⟩ := hown_3.slice; simp only [List.length_append, List.length_cons, List.length_nil, Nat.zero_add] at hv_3; subst hv_3; have hz_3 := HG_3.out.size; (try simp only [World.size_alloc] at hz_3); clear hown_3 hg_3 hat_3 HL_3 HQ_3 HV_3))
      have HC3 := Lib.hid ((HC2.out.alloc _).grown HG_3.out (fun q hq => (HK_3.out q hq).1))
      have HR3 := Lib.hid ((HR_w2.out.alloc (.cells #[.bool (decide (0 < v))] 4)).grown HG_3.out (fun q hq => by have := (HK_3.out q hq).1; omega))
      refine ⟨⟨ys ++ [decide (0 < v)], A_3, c_3, by rw [List.length_append]; go_num, by simp; omega, by simp, HR3.out.more (by simp; omega), HC3, ?_⟩, by simp [intOf]; omega⟩
      have := HO_3.out
      unfold Hid
      rw [List.length_append]; exact this
    · have hodd := odd_any g (P + ys.length) n wr HR2.out (by omega) (by omega) hn0
      go_wp2_with fail
      refine hodd.mono ?_
      clear hodd
      rintro e w2 ⟨bo, rfl, hr2, hc2⟩
      have HRa := Lib.hid hr2
      have HV1 := Lib.hid (HV.out.chg hc2 (by omega))
      have HCW : Hid (Chg g w w2) := HC.out.trans hc2
      have hzw1 := HCW.out.size
      clear hr2 hc2
      cases bo with
      | false =>
        go_wp2_with fail
        go_ret
        exact ⟨_, ys, rfl, by omega, HV1.out.drs, HRa.out.more (by omega), HCW.out⟩
      | true =>
        have hgz2 : g < w2.heap.size := by omega
        have HL_3 := Lib.hid (Own.lit (k := 1) (c := boolC) (B := w.heap.size) w2 4 #[.bool true] 1 [true] (by first | exact Nat.le_refl _ | omega) rfl (by omega) rfl); have HQ_3 := Lib.hid (HL_3.out.reads rfl).1; have HV_3 := Lib.hid (Own.alloc (HV1.out) (.cells #[.bool true] 4)); have HK_3 := Lib.hid (Own.blk (HV1.out)); go_wp2_with (first | (at_builtin; refine wpList_app_g (k := 1) (c := boolC) _ (by rfl) _ _ _ rfl 4 (.bool false) 1 Tryd.underlying50 (by kernel_rfl) rfl (by decide) (by decide) boolC_one _ _ _ rfl HV_3.out _ _ _ _ rfl HQ_3.out ?hm ?hlen ?hB ?_; (case hm => (first | rfl | (simp; done) | omega)); (case hlen => (simp only [List.length_cons, List.length_nil]; omega)); (case hB => ((try simp only [World.size_alloc]); omega)); intro v_3 w_3 hown_3 hg_3 hat_3; have HW_3 : Hid (Below (w.heap.size) (w2) w_3) := (Below.alloc (Below.refl _ _) (by first | exact Nat.le_refl _ | omega) _).grown hg_3 (by (try simp only [World.size_alloc]); omega) (fun q hq => (HK_3.out q hq).1); have HG_3 := Lib.hid hg_3; have HO_3 := Lib.hid hown_3; obtain ⟨A_3, c_3, hv_3⟩ := hown_3.slice; simp only [List.length_append, List.length_cons, List.length_nil, Nat.zero_add] at hv_3; subst hv_3; have hz_3 := HG_3.out.size; (try simp only [World.size_alloc] at hz_3); clear hown_3 hg_3 hat_3 HL_3 HQ_3 HV_3))
        have HC3 := Lib.hid ((HCW.out.alloc _).grown HG_3.out (fun q hq => (HK_3.out q hq).1))
        have HR3 := Lib.hid ((HRa.out.alloc (.cells #[.bool true] 4)).grown HG_3.out (fun q hq => by have := (HK_3.out q hq).1; omega))
        go_ret
        exact ⟨_, _, rfl, by simp; omega, HO_3.out.drs, HR3.out.more (by omega), HC3.out⟩

theorem runL_SmU {xs : List R4} {on : List Bool} (h : ∀ x ∈ xs, SmU x) : ∀ x ∈ runL xs on, SmU x := fun x hx => h x (runL_mem hx)
/-- Units, which of them run, and a load were drawn. -/
def DrawnUBL (w : World) (e : Ending) (w' : World) : Prop :=
  ∃ (A A' : Option Addr) (c c' : Nat) (xs : List R4) (on : List Bool) (L : Int), e = .returned (.tuple #[.slice A xs.length c, .slice A' on.length c', .int .i64 L]) ∧ xs.length ≤ 7 ∧ (∀ x ∈ xs, SmU x) ∧ on.length ≤ 8 ∧ -20 ≤ L ∧ L ≤ 1000 ∧
    DrS 4 r4C w' w.heap.size (.slice A xs.length c) xs ∧ DrS 1 boolC w' w.heap.size (.slice A' on.length c') on ∧ Below w.heap.size w w'
set_option maxRecDepth 100000 in
set_option maxHeartbeats 8000000 in
theorem drawCommitCost_any (A : Option Addr) (c : Nat) (bs : List Int) (w : World) (hR : Reads 1 byteC w w.heap.size A bs) (hb : ∀ x ∈ bs, U8 x) (hl : bs.length ≤ 1048576) (hc : bs.length ≤ c) (hcm : c ≤ 9223372036854775807) :
    Calls Tryd.prog 41 #[.slice A bs.length c] w (DrawnUBL w) := by
  have HR := Lib.hid hR; clear hR
  have HB := Lib.hid hb; clear hb
  go_enter Tryd.func41, Tryd.ntmps41
  go_wp2_with fail; ((with_reducible refine (l20Open_any A c bs _ HR.out HB.out hl hc hcm).mono ?_); rintro e w1 ⟨g, rfl, hg, hr1, hb_1⟩); have hz_1 := hb_1.size; (try simp only [World.size_alloc, World.size_setCell, World.size_drew] at hz_1)
  have hgz := hr1.lt
  have HR1 := Lib.hid hr1; have HB1 := Lib.hid hb_1; clear hr1 hb_1
  go_wp2_with fail
  refine (l20Units_any g 0 9 _ HR1.out (by omega) (by omega) (by omega)).mono ?_
  rintro e w2 ⟨v, xs, rfl, h7, hs, hd, hr2, hc2⟩
  have HD := Lib.hid hd
  obtain ⟨A1, c1, rfl, _⟩ := hd
  have HR2 := Lib.hid hr2; have HS := Lib.hid hs; have HC2 := Lib.hid hc2
  clear hs hc2 hr2
  have hz1 := HB1.out.size
  have hz2 := HC2.out.size
  go_wp2_with fail
  refine (l20Running_any g _ 9 A1 xs.length c1 w2 HR2.out h7 (by omega) (by omega) (by omega)).mono ?_
  rintro e w3 ⟨v3, on, rfl, h83, hd3, hr3, hc3⟩
  have HD3 := Lib.hid hd3; have HC3 := Lib.hid hc3; have HR3 := Lib.hid hr3
  obtain ⟨A3, c3, rfl, _⟩ := hd3
  clear hr3 hc3
  have HDw3 := Lib.hid (HD.out.chg HC3.out hgz)
  have hz3 := HC3.out.size
  have hgz3 : g < w3.heap.size := by omega
  by_cases hm : on.length = xs.length
  · have hne : ((on.length : Int) != (xs.length : Int)) = false := by simp [hm]
    have hne2 : (on.length != xs.length) = false := by simp [hm]
    have HM := Lib.hid hm; clear hm
    go_wp2_with fail
    refine (specRunning_any A1 A3 c1 c3 xs on w3 HDw3.out.reads.1 HD3.out.reads.1 (by omega) HM.out).mono ?_
    rintro e w4 ⟨v4, rfl, hr4, hb4⟩
    have HS4 := Lib.hid hr4
    obtain ⟨A4, c4, rfl, _⟩ := hr4
    have HB4 := Lib.hid hb4; clear hb4
    have hrl := Nat.le_trans (runL_len (xs := xs) (on := on)) h7
    go_wp2_with fail
    refine (l20Load_any g _ A4 c4 (runL xs on) w4 (HR3.out.below HB4.out) HS4.out.reads.1 hrl (runL_SmU HS.out) (by omega)).mono ?_
    rintro e w5 ⟨L, rfl, hL0, hL1, hr5, hc5⟩
    have HC5 := Lib.hid hc5; clear hr5 hc5
    go_wp2_with fail
    refine bodyPost_ret (by simp [results, Tryd.results41, go_sem]; try rfl) rfl ?_
    refine ⟨_, _, _, _, _, _, _, rfl, h7, HS.out, h83, hL0, hL1, ((HDw3.out.below HB4.out).chg HC5.out hgz).mono hz1, ((HD3.out.below HB4.out).chg HC5.out (by omega)).mono (by omega), ?_⟩
    exact HB1.out.trans (((((HC2.out.trans HC3.out).trans (Chg.of_below HB4.out)).trans HC5.out).below (Nat.le_of_lt hgz)).mono hg)
  · have hne : ((on.length : Int) != (xs.length : Int)) = true := by simp; omega
    have hne2 : (on.length != xs.length) = true := by simp; omega
    clear hm
    go_wp2_with fail; ((with_reducible refine (pick_any g (0 + 40 + 20) 30 _ (HR3.out) (by omega) (by omega)).mono ?_); rintro e w4 ⟨v, rfl, h0v, h1v, hr_w4, hc_w4⟩); have hz_w4 := hc_w4.size; (try simp only [World.size_alloc, World.size_setCell, World.size_drew] at hz_w4); have HR_w4 := Lib.hid hr_w4; have HC_w4 := Lib.hid hc_w4; clear hr_w4 hc_w4
    go_wp2_with fail
    refine bodyPost_ret (by simp [results, Tryd.results41, go_sem]; try rfl) rfl ?_
    refine ⟨_, _, _, _, _, _, _, rfl, h7, HS.out, h83, by omega, by omega, (HDw3.out.chg HC_w4.out hgz).mono hz1, (HD3.out.chg HC_w4.out (by omega)).mono (by omega), ?_⟩
    exact HB1.out.trans ((((HC2.out.trans HC3.out).trans HC_w4.out).below (Nat.le_of_lt hgz)).mono hg)
theorem drawSpareOf_any (A : Option Addr) (c : Nat) (bs : List Int) (w : World) (hR : Reads 1 byteC w w.heap.size A bs) (hb : ∀ x ∈ bs, U8 x) (hl : bs.length ≤ 1048576) (hc : bs.length ≤ c) (hcm : c ≤ 9223372036854775807) :
    Calls Tryd.prog 44 #[.slice A bs.length c] w (DrawnUBL w) := by
  have HD := Lib.hid (drawCommitCost_any A c bs w hR hb hl hc hcm); clear hR hb
  go_enter Tryd.func44, Tryd.ntmps44
  go_wp2_with fail
  refine HD.out.mono ?_
  rintro e w1 ⟨A1, A2, c1, c2, xs, on, L, rfl, h7, hs, h8, hL0, hL1, hd, hd2, hb⟩
  have HS := Lib.hid hs; have HD1 := Lib.hid hd; have HD2 := Lib.hid hd2; have HB := Lib.hid hb; clear hs hd hb hd2
  go_wp2_with fail
  refine bodyPost_ret (by simp [results, Tryd.results44, go_sem]; try rfl) rfl ?_
  exact ⟨_, _, _, _, _, _, _, rfl, h7, HS.out, h8, hL0, hL1, HD1.out, HD2.out, HB.out⟩
/-- Units, a load and a number were drawn. -/
def DrawnULS (w : World) (e : Ending) (w' : World) : Prop :=
  ∃ (A : Option Addr) (c : Nat) (xs : List R4) (L sp : Int), e = .returned (.tuple #[.slice A xs.length c, .int .i64 L, .int .i64 sp]) ∧ xs.length ≤ 7 ∧ (∀ x ∈ xs, SmU x) ∧ -20 ≤ L ∧ L ≤ 1000 ∧ -20 ≤ sp ∧ sp ≤ 1000 ∧ DrS 4 r4C w' w.heap.size (.slice A xs.length c) xs ∧ Below w.heap.size w w'
set_option maxRecDepth 100000 in
set_option maxHeartbeats 8000000 in
theorem drawCommit_any (A : Option Addr) (c : Nat) (bs : List Int) (w : World) (hR : Reads 1 byteC w w.heap.size A bs) (hb : ∀ x ∈ bs, U8 x) (hl : bs.length ≤ 1048576) (hc : bs.length ≤ c) (hcm : c ≤ 9223372036854775807) :
    Calls Tryd.prog 52 #[.slice A bs.length c] w (DrawnULS w) := by
  have HR := Lib.hid hR; clear hR
  have HB := Lib.hid hb; clear hb
  go_enter Tryd.func52, Tryd.ntmps52
  go_wp2_with fail; ((with_reducible refine (l20Open_any A c bs _ HR.out HB.out hl hc hcm).mono ?_); rintro e w1 ⟨g, rfl, hg, hr1, hb_1⟩); have hz_1 := hb_1.size; (try simp only [World.size_alloc, World.size_setCell, World.size_drew] at hz_1)
  have hgz := hr1.lt
  have HR1 := Lib.hid hr1; have HB1 := Lib.hid hb_1; clear hr1 hb_1
  go_wp2_with fail
  refine (l20Units_any g 0 9 _ HR1.out (by omega) (by omega) (by omega)).mono ?_
  rintro e w2 ⟨v, xs, rfl, h7, hs, hd, hr2, hc2⟩
  have HD := Lib.hid hd
  obtain ⟨A1, c1, rfl, _⟩ := hd
  have HR2 := Lib.hid hr2; have HS := Lib.hid hs; have HC2 := Lib.hid hc2
  clear hs hc2 hr2
  have hz1 := HB1.out.size
  have hz2 := HC2.out.size
  go_wp2_with fail; ((with_reducible refine (pick_any g (0 + 40) 60 _ (HR2.out) (by omega) (by omega)).mono ?_); rintro e w3 ⟨v1, rfl, h0v1, h1v1, hr_w3, hc_w3⟩); have hz_w3 := hc_w3.size; (try simp only [World.size_alloc, World.size_setCell, World.size_drew] at hz_w3); have HR_w3 := Lib.hid hr_w3; have HC_w3 := Lib.hid hc_w3; clear hr_w3 hc_w3
  go_wp2_with fail; ((with_reducible refine (pick_any g (0 + 40 + 1) 20 _ (HR_w3.out) (by omega) (by omega)).mono ?_); rintro e w4 ⟨v2, rfl, h0v2, h1v2, hr_w4, hc_w4⟩); have hz_w4 := hc_w4.size; (try simp only [World.size_alloc, World.size_setCell, World.size_drew] at hz_w4); have HR_w4 := Lib.hid hr_w4; have HC_w4 := Lib.hid hc_w4; clear hr_w4 hc_w4
  go_wp2_with fail; ((with_reducible refine (pick_any g (0 + 40 + 1 + 1) 12 _ (HR_w4.out) (by omega) (by omega)).mono ?_); rintro e w5 ⟨v3, rfl, h0v3, h1v3, hr_w5, hc_w5⟩); have hz_w5 := hc_w5.size; (try simp only [World.size_alloc, World.size_setCell, World.size_drew] at hz_w5); have HR_w5 := Lib.hid hr_w5; have HC_w5 := Lib.hid hc_w5; clear hr_w5 hc_w5
  go_wp2_with fail; ((with_reducible refine (pick_any g (0 + 40 + 1 + 1 + 1) 12 _ (HR_w5.out) (by omega) (by omega)).mono ?_); rintro e w6 ⟨v4, rfl, h0v4, h1v4, hr_w6, hc_w6⟩); have hz_w6 := hc_w6.size; (try simp only [World.size_alloc, World.size_setCell, World.size_drew] at hz_w6); have HR_w6 := Lib.hid hr_w6; have HC_w6 := Lib.hid hc_w6; clear hr_w6 hc_w6
  have hv2 : v2.tdiv 19 = 0 ∨ v2.tdiv 19 = 1 := by rw [Int.tdiv_eq_ediv_of_nonneg h0v2]; omega
  have hv4 : v4.tdiv 11 = 0 ∨ v4.tdiv 11 = 1 := by rw [Int.tdiv_eq_ediv_of_nonneg h0v4]; omega
  generalize v2.tdiv 19 = q2 at hv2
  generalize v4.tdiv 11 = q4 at hv4
  go_wp2_with fail
  refine bodyPost_ret (by simp [results, Tryd.results52, go_sem]; try rfl) rfl ?_
  have hcc := ((HC_w3.out.trans HC_w4.out).trans HC_w5.out).trans HC_w6.out
  refine ⟨_, _, _, _, _, rfl, h7, HS.out, by omega, by omega, by omega, by omega, (HD.out.chg hcc hgz).mono hz1, ?_⟩
  exact HB1.out.trans (((HC2.out.trans hcc).below (Nat.le_of_lt hgz)).mono hg)
end Go.Proofs.YtcpopbkcphpdfaaDoor
