/- Drawing nets (spec.l20Net). -/
import Derived.Test.YtdfgdeccejcpfaaDoorNw
import Derived.Test.YtdfgdeccejcpfaaDoorDrZone
import Derived.Test.YtdfgdeccejcpfaaDoorAppS
import Derived.Deep.RegionLaw
import Derived.Deep.RegionHeld3
import Derived.Deep.DeepCutAuto
import Derived.Deep.CutBlock
namespace Go.Proofs.YtdfgdeccejcpfaaDoor
open Go.RowKit Go.Deep
set_option linter.unusedSimpArgs false
set_option linter.unusedVariables false

set_option maxRecDepth 100000 in
set_option maxHeartbeats 16000000 in
theorem l20Net_any (g : Nat) (P n : Int) (w : World) (hr : RdOk 83 w g P) (hP : P ≤ 900000) (hn : n ≤ 1000) (hn0 : 0 ≤ n) :
    Calls Tryd.prog 37 #[.pointer (some ⟨g, 0, none⟩), .int .i64 n] w (DrawnNt g P w) := by
  have hgl := hr.lt
  have HR := Lib.hid hr; clear hr
  go_enter Tryd.func37, Tryd.ntmps37
  go_wp2_with fail; ((with_reducible refine (pick_any g (P) 8 _ (HR.out.alloc _) (by omega) (by omega)).mono ?_); rintro e w1 ⟨v0, rfl, h0v0, h1v0, hr_w1, hc_w1⟩); have cB0_w1 := Chg.cell hc_w1 (b := w.heap.size) (by go_size) (by omega); have fB0_w1 := Chg.frozen hc_w1 (b := w.heap.size) (by go_size) (by omega); have zB0_w1 : w.heap.size < w1.heap.size := Nat.lt_of_lt_of_le (by go_size) hc_w1.size; have hz_w1 := hc_w1.size; (try simp only [World.size_alloc, World.size_setCell, World.size_drew] at hz_w1); have HR_w1 := Lib.hid hr_w1; have HC_w1 := Lib.hid hc_w1; clear hr_w1 hc_w1
  obtain ⟨nb, hnb⟩ : ∃ nb : Nat, 1 + v0 = (nb : Int) := ⟨(1 + v0).toNat, by omega⟩
  have hnb1 : 1 ≤ nb := by omega
  have hnb8 : nb ≤ 8 := by omega
  have hg1 : g < w1.heap.size := by omega
  have h41 : w.heap.size < w1.heap.size := by omega
  have HC1 : Hid (Chg g w w1) := ((Chg.refl g w).alloc _).trans HC_w1.out
  have HK4 : Hid (Bk w1 w.heap.size 25 #[.int .i64 0, .slice none 0 0]) := HC_w1.out.bk (Bk.new _ _ _) (by omega)
  have HS0 : Hid (NetW (w1.alloc (.cells #[.int .i64 (nb : Int), .slice none 0 0] 25)) w.heap.size w1.heap.size (nb : Int) (.slice none 0 0) []) := ⟨HK4.out.alloc _, Bk.new _ _ _, Own.nil⟩
  have HRx := Lib.hid (HR_w1.out.alloc (.cells #[.int .i64 (nb : Int), .slice none 0 0] 25))
  clear cB0_w1 fB0_w1 zB0_w1 HC_w1 HR_w1
  go_wp2_with fail; ((with_reducible refine (pick_any g (P + 1) 3 _ (HRx.out) (by omega) (by omega)).mono ?_); rintro e w2 ⟨v1, rfl, h0v1, h1v1, hr_w2, hc_w2⟩); have hz_w2 := hc_w2.size; (try simp only [World.size_alloc, World.size_setCell, World.size_drew] at hz_w2); have HR_w2 := Lib.hid hr_w2; have HC_w2 := Lib.hid hc_w2; clear hr_w2 hc_w2
  have HC2 : Hid (Chg g w w2) := (HC1.out.alloc _).trans HC_w2.out
  have HS2 := Lib.hid (HS0.out.chg HC_w2.out hgl hg1)
  clear HS0 HRx HC_w2 HC1 HK4 hz_w2 hz_w1 hnb h0v0 h1v0
  generalize hg7e : w1.heap.size = g7 at HS2 hg1 h41 ⊢
  clear hg7e
  go_upto_if 15 with fail
  go_cut [] (fun wx => ∃ (nb : Nat), 1 ≤ nb ∧ nb ≤ 8 ∧ Hid (NetW wx w.heap.size g7 (nb : Int) (.slice none 0 0) []) ∧ Hid (RdOk 83 wx g (P + 3)) ∧ Hid (Chg g w wx))
  case first =>
    have hgz := HR_w2.out.lt
    have hz7 := HS2.out.net.lt
    by_cases hv : 0 < v1
    · go_wp2_with fail; ((with_reducible refine (pick_any g (P + 1 + 1) 4 _ (HR_w2.out) (by omega) (by omega)).mono ?_); rintro e w3 ⟨v3, rfl, h0v3, h1v3, hr_w3, hc_w3⟩); have hz_w3 := hc_w3.size; (try simp only [World.size_alloc, World.size_setCell, World.size_drew] at hz_w3); have HR_w3 := Lib.hid hr_w3; have HC_w3 := Lib.hid hc_w3; clear hr_w3 hc_w3
      have HS3 := Lib.hid (HS2.out.chg HC_w3.out hgl hg1)
      have HC3 := Lib.hid (HC2.out.trans HC_w3.out)
      obtain ⟨nc, hnc⟩ : ∃ nc : Nat, 4 + v3 = (nc : Int) := ⟨(4 + v3).toNat, by omega⟩
      have hc0 : w3.cell? ⟨g7, 0, none⟩ = some (.int .i64 (nb : Int)) := HS3.out.net.cell 0
      have hf := HS3.out.net.frozen
      have hz3 := HS3.out.net.lt
      go_wp2_with fail
      go_meet
      exact ⟨nc, by omega, by omega, HS3.out.setB h41 nc, (HR_w3.out.set_new hg1 _).more (by omega), HC3.out.set_new (by omega) _⟩
    · go_wp2_with fail
      go_meet
      exact ⟨nb, hnb1, hnb8, HS2, HR_w2.out.more (by omega), HC2⟩
  case rest =>
    clear HS2 HR_w2 HC2 hnb1 hnb8 h0v1 h1v1
    obtain ⟨nb, hnb1, hnb8, HS2, HRc, HC2⟩ := hcut
    have hgz := HRc.out.lt
    have hz7 := HS2.out.net.lt
    go_wp2_with fail; ((with_reducible refine (pick_any g (P + 3) 11 _ (HRc.out) (by omega) (by omega)).mono ?_); rintro e w3 ⟨k0, rfl, h0k0, h1k0, hr_w3, hc_w3⟩); have hz_w3 := hc_w3.size; (try simp only [World.size_alloc, World.size_setCell, World.size_drew] at hz_w3); have HR_w3 := Lib.hid hr_w3; have HC_w3 := Lib.hid hc_w3; clear hr_w3 hc_w3
    have HS3 := Lib.hid (HS2.out.chg HC_w3.out hgl hg1)
    have HC3 := Lib.hid (HC2.out.trans HC_w3.out)
    clear HS2 HRc HC2 HC_w3 hz_w3 hgz hz7
    obtain ⟨n1, hn1⟩ : ∃ n1, n1 + 1 = nb := ⟨nb - 1, by omega⟩
    have hi1 : (nb : Int) - 1 = (n1 : Int) := by omega
    have hj1 : IntKind.i64.wrap ((nb : Int) - 1) = (n1 : Int) := by rw [IntWalk.i64_in _ (by omega)]; exact hi1
    have hnz1 : ((nb : Int) == 0) = false := beq_eq_false_iff_ne.2 (by omega)
    have hnz2 : ¬ (nb : Int) = 0 := by omega
    have hnz3 : ¬ nb = 0 := by omega
    have HI := Lib.hid hi1; clear hi1
    go_wp2_with fail
    go_loopw [6] (fun t6 wr => ∃ (k : Int) (lv : Value) (ls : List R3), t6 = .int .i64 k ∧ 0 ≤ k ∧ k ≤ 10 ∧ Hid ((ls.length : Int) + k ≤ 10) ∧ Hid (NetW wr w.heap.size g7 (nb : Int) lv ls) ∧ Hid (RdOk 83 wr g (P + 40 - 3 * k)) ∧ Hid (Chg g w wr)) (fun t6 _ => (intOf t6).toNat)
    case atStart => exact ⟨k0, _, [], rfl, h0k0, by omega, by unfold Hid; simp; omega, HS3, HR_w3.out.more (by omega), HC3⟩
    case round =>
      obtain ⟨k, lv, ls, rfl, hk0, hk10, HLEN, HS, HR2, HC⟩ := hrel
      clear HS3 HC3 HR_w3
      have hgz := HR2.out.lt
      have hz4 := HS.out.res.lt
      have hz7 := HS.out.net.lt
      have c0 : wr.cell? ⟨g7, 0, none⟩ = some (.int .i64 (nb : Int)) := HS.out.net.cell 0
      have c1 : wr.cell? ⟨g7, 1, none⟩ = some lv := HS.out.net.cell 1
      have f7 := HS.out.net.frozen
      obtain ⟨lA, lc, hlv⟩ := HS.out.lns.slice
      subst hlv
      have hlsl : ls.length ≤ 10 := by have := HLEN.out; omega
      by_cases hgo : 0 < k ∧ 1 < nb
      · obtain ⟨hk, hnb2⟩ := hgo
        have hb2 : (1 : Int) < (nb : Int) := by omega
        go_wp2_with fail; ((with_reducible refine (pick_any g (P + 40 - 3 * k) (nb : Int) _ (HR2.out) (by omega) (by omega)).mono ?_); rintro e wa ⟨va, rfl, h0va, h1va, hr_wa, hc_wa⟩); have hz_wa := hc_wa.size; (try simp only [World.size_alloc, World.size_setCell, World.size_drew] at hz_wa); have HR_wa := Lib.hid hr_wa; have HC_wa := Lib.hid hc_wa; clear hr_wa hc_wa
        have HSa := Lib.hid (HS.out.chg HC_wa.out hgl hg1)
        have HCa := Lib.hid (HC.out.trans HC_wa.out)
        have HRd : Hid (RdOk 83 wa.drew g (P + 40 - 3 * k + 1)) := HR_wa.out
        have HSd : Hid (NetW wa.drew w.heap.size g7 (nb : Int) (.slice lA ls.length lc) ls) := HSa.out.drew
        have HCd : Hid (Chg g w wa.drew) := HCa.out.drewL
        clear c0 c1 f7 HC_wa
        have a0 : wa.cell? ⟨g7, 0, none⟩ = some (.int .i64 (nb : Int)) := HSa.out.net.cell 0
        have az := HSa.out.net.lt
        have hwa1 : IntKind.i64.wrap (va + 1) = va + 1 := IntWalk.i64_in _ (by omega)
        go_wp2_with fail
        go_region_held3 (fun w' => w'.cell? ⟨g7, 0, none⟩ = some (.int .i64 (nb : Int))) (simp [go_sem, World.cell?_alloc_past, *])
          (first | (go_at_call 33; (with_reducible refine (pick_any g (P + 40 - 3 * k + 1) (n1 : Int) _ (by with_reducible exact HRd.out) (by omega) (by omega)).mono ?_); rintro e wb ⟨vb, rfl, h0b, h1b, hrb, hcb⟩; have HRb := Lib.hid hrb; have HSb := Lib.hid (HSd.out.chg hcb hgl hg1); have HCb := Lib.hid (HCd.out.trans hcb); clear hrb hcb; have b0 : wb.cell? ⟨g7, 0, none⟩ = some (.int .i64 (nb : Int)) := HSb.out.net.cell 0; have hwb : IntKind.i64.wrap (va + 1 + vb) = va + 1 + vb := IntWalk.i64_in _ (by omega); obtain ⟨rr, hrr⟩ : ∃ rr, (va + 1 + vb).tmod (nb : Int) = rr := ⟨_, rfl⟩))
        clear a0 az HSa HCa HR_wa HSd HCd HRd b0
        have HRe : Hid (RdOk 83 wb.drew g (P + 40 - 3 * k + 1 + 1)) := HRb.out
        have HSe : Hid (NetW wb.drew w.heap.size g7 (nb : Int) (.slice lA ls.length lc) ls) := HSb.out.drew
        have HCe : Hid (Chg g w wb.drew) := HCb.out.drewL
        have d1 : wb.cell? ⟨g7, 1, none⟩ = some (.slice lA ls.length lc) := HSb.out.net.cell 1
        have dz := HSb.out.net.lt
        go_wp2_with fail
        go_region_law
          (first
            | (refine step_app_g (k := 3) (c := r3C) _ (by rfl) _ _ _ rfl 58 (.agg (Array.replicate 3 (.int .i64 0))) 24 Tryd.underlying23 (by kernel_rfl) rfl (by decide) (by decide) r3C_one _ _ _ rfl HV_7.out _ _ _ _ rfl HQ_7.out ?hm ?hlen ?hB ?_; (case hm => (first | rfl | (simp; done) | omega)); (case hlen => (simp only [List.length_cons, List.length_nil]; omega)); (case hB => ((try simp only [World.size_alloc, World.size_drew]); omega)); intro v_7 w_7 hown_7 hg_7 hat_7; have HW_7 : Hid (Below (g7 + 1) (we) w_7) := (Below.alloc (Below.refl _ _) (by first | exact Nat.le_refl _ | omega) _).grown hg_7 (by (try simp only [World.size_alloc]); omega) (fun q hq => (HK_7.out q hq).1); have HG_7 := Lib.hid hg_7; have HAT_7 := Lib.hid hat_7; have HO_7 := Lib.hid hown_7; obtain ⟨A_7, c_7, hv_7⟩ := hown_7.slice; simp only [List.length_append, List.length_cons, List.length_nil, Nat.zero_add] at hv_7; subst hv_7; have hz_7 := HG_7.out.size; (try simp only [World.size_alloc] at hz_7); clear hown_7 hg_7 hat_7 HL_7 HQ_7 HV_7; have HN7 := Lib.hid (HSf.out.netL HG_7.out) ; have cc1 : w_7.cell? ⟨g7, 1, none⟩ = some (.slice lA ls.length lc) := HN7.out.cell 1 ; have ff7 := HN7.out.frozen ; have zz7 := HN7.out.lt)
            | (go_simp; go_at_call 33; (with_reducible refine (pick_any g (P + 40 - 3 * k + 1 + 1) 40 _ (by with_reducible exact HRe.out) (by omega) (by omega)).mono ?_); rintro e we ⟨ve, rfl, h0e, h1e, hre, hce⟩; have HRf := Lib.hid hre; have HSf := Lib.hid (HSe.out.chg hce hgl hg1); have HCf := Lib.hid (HCe.out.trans hce); clear hre hce; have e1 : we.cell? ⟨g7, 1, none⟩ = some (.slice lA ls.length lc) := HSf.out.net.cell 1; have ez := HSf.out.net.lt; have hwe : IntKind.i64.wrap (1 + ve) = 1 + ve := IntWalk.i64_in _ (by omega); have hgB : g7 + 1 ≤ we.heap.size := (by omega); have HL_7 := Lib.hid (Own.lit (k := 3) (c := r3C) (B := g7 + 1) we 58 #[.int .i64 va, .int .i64 rr, .int .i64 (1 + ve)] 1 [(⟨va, rr, 1 + ve⟩ : R3)] (by first | exact Nat.le_refl _ | omega) rfl (by omega) rfl); have HQ_7 := Lib.hid (HL_7.out.reads rfl).1; have HV_7 := Lib.hid (Own.alloc (HSf.out.lns) (.cells #[.int .i64 va, .int .i64 rr, .int .i64 (1 + ve)] 58)); have HK_7 := Lib.hid (Own.blk (HSf.out.lns))))
        all_goals
          go_wp2_with fail
          refine ⟨⟨k - 1, _, _, by go_num, by omega, by omega, by have := HLEN.out; unfold Hid; simp; omega, HSf.out.pushL h41 HO_7.out HG_7.out, ?_, (chG HCf.out HSf.out.lns (by omega) HG_7.out).set_new (by omega) _⟩, by simp [intOf]; omega⟩
          exact ((rdG HRf.out HSf.out.lns hg1 HG_7.out).set_new hg1 _).more (by omega)
      · have hgo' : ¬ 0 < k ∨ (0 < k ∧ ¬ (1 : Int) < (nb : Int)) := by omega
        have hodd := Lib.hid (odd_any g (P + 40 - 3 * k) n wr HR2.out (by omega) (by omega) hn0)
        clear hgo
        have HMK := fun W => run_mk (P := Tryd.prog) 23 58 (.agg (Array.replicate 3 (.int .i64 0))) 3 24 11 Tryd.underlying23 (by kernel_rfl) (by omega) (by omega) W
        have HMK := Lib.hid HMK
        rcases hgo' with hk | ⟨hk, hnb2⟩
        all_goals
          go_wp2_with fail
          with_reducible refine hodd.out.mono ?_
          rintro e w5 ⟨bo, rfl, hr5, hc5⟩
          have HR5 : Hid (RdOk 83 w5 g (P + 41)) := hr5.more (by omega)
          have HS5 := Lib.hid (HS.out.chg hc5 hgl hg1)
          have HC5 := Lib.hid (HC.out.trans hc5)
          clear hr5 hc5 HS HR2 HC c0 c1 f7 hodd hgz hz4 hz7
          have hgz := HR5.out.lt
          go_upto_if 59 with fail
          go_cut [] (fun wx => ∃ (B : Int) (lA9 : Option Addr) (ln9 lc9 : Nat) (ls9 : List R3), Hid (Bk wx w.heap.size 25 #[.int .i64 0, .slice none 0 0] ∧ Bk wx g7 25 #[.int .i64 B, .slice lA9 ln9 lc9]) ∧ Hid (DrS 3 r3C wx (g7 + 1) (.slice lA9 ln9 lc9) ls9) ∧ Hid (-1 ≤ B ∧ B ≤ 9 ∧ ls9.length ≤ 20) ∧ Hid (RdOk 83 wx g (P + 60)) ∧ Hid (Chg g w wx))
          case rest =>
            obtain ⟨B9, lA9, ln9, lc9, ls9, HK9, HD9, HL9, HR9, HC9⟩ := hcut
            clear HS5 HC5 HR5
            have F3 := HK9.out.1.frozen
            have F4 := HK9.out.1.lt
            have F5 : wc.cell? ⟨g7, 0, none⟩ = some (.int .i64 B9) := HK9.out.2.cell 0
            have F6 : wc.cell? ⟨g7, 1, none⟩ = some (.slice lA9 ln9 lc9) := HK9.out.2.cell 1
            have F7 : wc.cell? ⟨w.heap.size, 0, none⟩ = some (.int .i64 0) := HK9.out.1.cell 0
            have F8 : wc.cell? ⟨w.heap.size, 1, none⟩ = some (.slice none 0 0) := HK9.out.1.cell 1
            obtain ⟨hb1, hb2, hl9⟩ := HL9.out
            go_wp2_with fail
            refine bodyPost_ret (v := .agg #[.int .i64 B9, .slice lA9 ln9 lc9]) (by simp [results, Tryd.results37, go_sem, F3, F4, F7, F8]; try rfl) rfl ?_
            exact net_fin HD9.out HR9.out (Int.le_refl _) HC9.out hgl h41 hb1 hb2 hl9
          cases bo with
          | false =>
            go_wp2_with fail
            go_meet
            exact ⟨nb, lA, _, lc, ls, ⟨HS5.out.res, HS5.out.net⟩, HS5.out.lns.drs, by unfold Hid; omega, HR5.out.more (by omega), HC5⟩
          | true =>
            go_wp2_with fail; ((with_reducible refine (pick_any g (P + 41) 5 _ (HR5.out) (by omega) (by omega)).mono ?_); rintro e w6 ⟨v6, rfl, h0v6, h1v6, hr_w6, hc_w6⟩); have hz_w6 := hc_w6.size; (try simp only [World.size_alloc, World.size_setCell, World.size_drew] at hz_w6); have HR_w6 := Lib.hid hr_w6; have HC_w6 := Lib.hid hc_w6; clear hr_w6 hc_w6
            have HS6 := Lib.hid (HS5.out.chg HC_w6.out hgl hg1)
            have HC6 := Lib.hid (HC5.out.trans HC_w6.out)
            clear HS5 HC5 HR5 HC_w6 hz_w6 hgz
            have hgz := HR_w6.out.lt
            have hz7 := HS6.out.net.lt
            have c0 : w6.cell? ⟨g7, 0, none⟩ = some (.int .i64 (nb : Int)) := HS6.out.net.cell 0
            have c1 : w6.cell? ⟨g7, 1, none⟩ = some (.slice lA ls.length lc) := HS6.out.net.cell 1
            have f7 := HS6.out.net.frozen
            have hgB : g7 + 1 ≤ w6.heap.size := by omega
            have hv5 : v6 = 0 ∨ v6 = 1 ∨ v6 = 2 ∨ v6 = 3 ∨ v6 = 4 := by omega
            clear h0v6 h1v6
            rcases hv5 with rfl | rfl | rfl | rfl | rfl
            · go_wp2_with fail; ((with_reducible refine (pick_any g (P + 41 + 1) 3 _ (HR_w6.out.alloc _) (by omega) (by omega)).mono ?_); rintro e w7 ⟨v7, rfl, h0v7, h1v7, hr_w7, hc_w7⟩); have hz_w7 := hc_w7.size; (try simp only [World.size_alloc, World.size_setCell, World.size_drew] at hz_w7); have HR_w7 := Lib.hid hr_w7; have HC_w7 := Lib.hid hc_w7; clear hr_w7 hc_w7
              have HLT : Hid (Bk w7 w6.heap.size 3 #[.int .i64 0, .int .i64 (-1), .int .i64 9]) := HC_w7.out.bk (Bk.new _ _ _) (by omega)
              have HS7 := Lib.hid ((HS6.out.alloc (.cells #[.int .i64 0, .int .i64 (-1), .int .i64 9] 3)).chg HC_w7.out hgl hg1)
              have HC7 := Lib.hid ((HC6.out.alloc (.cells #[.int .i64 0, .int .i64 (-1), .int .i64 9] 3)).trans HC_w7.out)
              clear c0 c1 f7 HC_w7 hz_w7
              have hgz7 := HR_w7.out.lt
              have hzz := HS7.out.net.lt
              have d0 : w7.cell? ⟨g7, 0, none⟩ = some (.int .i64 (nb : Int)) := HS7.out.net.cell 0
              have f7 := HS7.out.net.frozen
              have l0 : w7.cell? ⟨w6.heap.size, 0, none⟩ = some (.int .i64 0) := HLT.out.cell 0
              have l1 : w7.cell? ⟨w6.heap.size, 1, none⟩ = some (.int .i64 (-1)) := HLT.out.cell 1
              have l2 : w7.cell? ⟨w6.heap.size, 2, none⟩ = some (.int .i64 9) := HLT.out.cell 2
              have hv3 : v7 = 0 ∨ v7 = 1 ∨ v7 = 2 := by omega
              clear h0v7 h1v7
              rcases hv3 with rfl | rfl | rfl
              all_goals
                go_wp2_with fail
                go_meet
                refine ⟨_, lA, _, lc, ls, ⟨(HS7.out.setB h41 _).res, (HS7.out.setB h41 _).net⟩, (HS7.out.setB h41 _).lns.drs, ?_, (HR_w7.out.set_new hg1 _).more (by omega), HC7.out.set_new (by omega) _⟩
                unfold Hid; omega
            · have HL_7 := Lib.hid (Own.lit (k := 3) (c := r3C) (B := g7 + 1) w6 58 #[.int .i64 0, .int .i64 (nb : Int), .int .i64 5] 1 [(⟨0, nb, 5⟩ : R3)] (by first | exact Nat.le_refl _ | omega) rfl (by omega) rfl); have HQ_7 := Lib.hid (HL_7.out.reads rfl).1; have HV_7 := Lib.hid (Own.alloc (HS6.out.lns) (.cells #[.int .i64 0, .int .i64 (nb : Int), .int .i64 5] 58)); have HK_7 := Lib.hid (Own.blk (HS6.out.lns)); go_wp2_with (first | (at_builtin; refine wpList_app_g (k := 3) (c := r3C) _ (by rfl) _ _ _ rfl 58 (.agg (Array.replicate 3 (.int .i64 0))) 24 Tryd.underlying23 (by kernel_rfl) rfl (by decide) (by decide) r3C_one _ _ _ rfl HV_7.out _ _ _ _ rfl HQ_7.out ?hm ?hlen ?hB ?_; (case hm => (first | rfl | (simp; done) | omega)); (case hlen => (simp only [List.length_cons, List.length_nil]; omega)); (case hB => ((try simp only [World.size_alloc, World.size_drew]); omega)); intro v_7 w_7 hown_7 hg_7 hat_7; have HW_7 : Hid (Below (g7 + 1) (w6) w_7) := (Below.alloc (Below.refl _ _) (by first | exact Nat.le_refl _ | omega) _).grown hg_7 (by (try simp only [World.size_alloc]); omega) (fun q hq => (HK_7.out q hq).1); have HG_7 := Lib.hid hg_7; have HAT_7 := Lib.hid hat_7; have HO_7 := Lib.hid hown_7; obtain ⟨A_7, c_7, hv_7⟩ := hown_7.slice; simp only [List.length_append, List.length_cons, List.length_nil, Nat.zero_add] at hv_7; subst hv_7; have hz_7 := HG_7.out.size; (try simp only [World.size_alloc] at hz_7); clear hown_7 hg_7 hat_7 HL_7 HQ_7 HV_7; have HN7 := Lib.hid (HS6.out.netL HG_7.out) ; have cc1 : w_7.cell? ⟨g7, 1, none⟩ = some (.slice lA ls.length lc) := HN7.out.cell 1 ; have ff7 := HN7.out.frozen ; have zz7 := HN7.out.lt))
              go_meet
              have HP := HS6.out.pushL h41 HO_7.out HG_7.out
              exact ⟨nb, _, _, _, _, ⟨HP.res, HP.net⟩, HP.lns.drs, by unfold Hid; simp; omega, ((rdG HR_w6.out HS6.out.lns hg1 HG_7.out).set_new hg1 _).more (by omega), (chG HC6.out HS6.out.lns (by omega) HG_7.out).set_new (by omega) _⟩
            · have HL_7 := Lib.hid (Own.lit (k := 3) (c := r3C) (B := g7 + 1) w6 58 #[.int .i64 0, .int .i64 0, .int .i64 5] 1 [(⟨0, 0, 5⟩ : R3)] (by first | exact Nat.le_refl _ | omega) rfl (by omega) rfl); have HQ_7 := Lib.hid (HL_7.out.reads rfl).1; have HV_7 := Lib.hid (Own.alloc (HS6.out.lns) (.cells #[.int .i64 0, .int .i64 0, .int .i64 5] 58)); have HK_7 := Lib.hid (Own.blk (HS6.out.lns)); go_wp2_with (first | (at_builtin; refine wpList_app_g (k := 3) (c := r3C) _ (by rfl) _ _ _ rfl 58 (.agg (Array.replicate 3 (.int .i64 0))) 24 Tryd.underlying23 (by kernel_rfl) rfl (by decide) (by decide) r3C_one _ _ _ rfl HV_7.out _ _ _ _ rfl HQ_7.out ?hm ?hlen ?hB ?_; (case hm => (first | rfl | (simp; done) | omega)); (case hlen => (simp only [List.length_cons, List.length_nil]; omega)); (case hB => ((try simp only [World.size_alloc, World.size_drew]); omega)); intro v_7 w_7 hown_7 hg_7 hat_7; have HW_7 : Hid (Below (g7 + 1) (w6) w_7) := (Below.alloc (Below.refl _ _) (by first | exact Nat.le_refl _ | omega) _).grown hg_7 (by (try simp only [World.size_alloc]); omega) (fun q hq => (HK_7.out q hq).1); have HG_7 := Lib.hid hg_7; have HAT_7 := Lib.hid hat_7; have HO_7 := Lib.hid hown_7; obtain ⟨A_7, c_7, hv_7⟩ := hown_7.slice; simp only [List.length_append, List.length_cons, List.length_nil, Nat.zero_add] at hv_7; subst hv_7; have hz_7 := HG_7.out.size; (try simp only [World.size_alloc] at hz_7); clear hown_7 hg_7 hat_7 HL_7 HQ_7 HV_7; have HN7 := Lib.hid (HS6.out.netL HG_7.out) ; have cc1 : w_7.cell? ⟨g7, 1, none⟩ = some (.slice lA ls.length lc) := HN7.out.cell 1 ; have ff7 := HN7.out.frozen ; have zz7 := HN7.out.lt))
              go_meet
              have HP := HS6.out.pushL h41 HO_7.out HG_7.out
              exact ⟨nb, _, _, _, _, ⟨HP.res, HP.net⟩, HP.lns.drs, by unfold Hid; simp; omega, ((rdG HR_w6.out HS6.out.lns hg1 HG_7.out).set_new hg1 _).more (by omega), (chG HC6.out HS6.out.lns (by omega) HG_7.out).set_new (by omega) _⟩
            · have hsel : ∀ q : Nat, q < 2 → (#[Value.int .i64 0, Value.int .i64 1000] : Array Value)[q]? = some (.int .i64 (selZ 1000 q)) := by
                intro q hq
                have : q = 0 ∨ q = 1 := by omega
                rcases this with rfl | rfl <;> rfl
              have hsel2 : ∀ (q : Nat) (h : q < ([Value.int .i64 0, Value.int .i64 1000] : List Value).length), ([Value.int .i64 0, Value.int .i64 1000] : List Value)[q] = .int .i64 (selZ 1000 q) := by
                intro q hq
                have hq : q < 2 := hq
                have : q = 0 ∨ q = 1 := by omega
                rcases this with rfl | rfl <;> rfl
              have HRd : Hid (RdOk 83 w6.drew g (P + 41 + 1)) := HR_w6.out
              have HVd : Hid (NetW w6.drew w.heap.size g7 (nb : Int) (.slice lA ls.length lc) ls) := HS6.out.drew
              have HCd : Hid (Chg g w w6.drew) := HC6.out.drewL
              have HRe : Hid (RdOk 83 (w6.alloc (LitB 1000)).drew g (P + 41 + 1)) := HR_w6.out.alloc _
              have HVe : Hid (NetW (w6.alloc (LitB 1000)).drew w.heap.size g7 (nb : Int) (.slice lA ls.length lc) ls) := (HS6.out.alloc _).drew
              have HCe : Hid (Chg g w (w6.alloc (LitB 1000)).drew) := (HC6.out.alloc _).drewL
              go_wp2_with fail
              go_region_law
                (first
                  | (refine step_app_g (k := 3) (c := r3C) _ (by rfl) _ _ _ rfl 58 (.agg (Array.replicate 3 (.int .i64 0))) 24 Tryd.underlying23 (by kernel_rfl) rfl (by decide) (by decide) r3C_one _ _ _ rfl HV_7.out _ _ _ _ rfl HQ_7.out ?hm ?hlen ?hB ?_; (case hm => (first | rfl | (simp; done) | omega)); (case hlen => (simp only [List.length_cons, List.length_nil]; omega)); (case hB => ((try simp only [World.size_alloc, World.size_drew]); omega)); intro v_7 w_7 hown_7 hg_7 hat_7; have HW_7 : Hid (Below (g7 + 1) (wa) w_7) := (Below.alloc (Below.refl _ _) (by first | exact Nat.le_refl _ | omega) _).grown hg_7 (by (try simp only [World.size_alloc]); omega) (fun q hq => (HK_7.out q hq).1); have HG_7 := Lib.hid hg_7; have HAT_7 := Lib.hid hat_7; have HO_7 := Lib.hid hown_7; obtain ⟨A_7, c_7, hv_7⟩ := hown_7.slice; simp only [List.length_append, List.length_cons, List.length_nil, Nat.zero_add] at hv_7; subst hv_7; have hz_7 := HG_7.out.size; (try simp only [World.size_alloc] at hz_7); clear hown_7 hg_7 hat_7 HL_7 HQ_7 HV_7; have HN7 := Lib.hid (HVa.out.netL HG_7.out) ; have cc1 : w_7.cell? ⟨g7, 1, none⟩ = some (.slice lA ls.length lc) := HN7.out.cell 1 ; have ff7 := HN7.out.frozen ; have zz7 := HN7.out.lt)
                  | (refine step_app_g (k := 3) (c := r3C) _ (by rfl) _ _ _ rfl 58 (.agg (Array.replicate 3 (.int .i64 0))) 24 Tryd.underlying23 (by kernel_rfl) rfl (by decide) (by decide) r3C_one _ _ _ rfl HV_8.out _ _ _ _ rfl HQ_8.out ?hm ?hlen ?hB ?_; (case hm => (first | rfl | (simp; done) | omega)); (case hlen => (simp only [List.length_cons, List.length_nil]; omega)); (case hB => ((try simp only [World.size_alloc, World.size_drew]); omega)); intro v_8 w_8 hown_8 hg_8 hat_8; have HW_8 : Hid (Below (g7 + 1) ((wa.alloc (LitB 1000))) w_8) := (Below.alloc (Below.refl _ _) (by first | exact Nat.le_refl _ | omega) _).grown hg_8 (by (try simp only [World.size_alloc]); omega) (fun q hq => (HK_8.out q hq).1); have HG_8 := Lib.hid hg_8; have HAT_8 := Lib.hid hat_8; have HO_8 := Lib.hid hown_8; obtain ⟨A_8, c_8, hv_8⟩ := hown_8.slice; simp only [List.length_append, List.length_cons, List.length_nil, Nat.zero_add] at hv_8; subst hv_8; have hz_8 := HG_8.out.size; (try simp only [World.size_alloc] at hz_8); clear hown_8 hg_8 hat_8 HL_8 HQ_8 HV_8; have HN8 := Lib.hid (HVb.out.netL HG_8.out) ; have cc1 : w_8.cell? ⟨g7, 1, none⟩ = some (.slice lA ls.length lc) := HN8.out.cell 1 ; have ff7 := HN8.out.frozen ; have zz7 := HN8.out.lt)
                  | (go_simp; go_at_call 33; (with_reducible refine (pick_same g (P + 41 + 1) 2 _ (by first | (with_reducible exact HRd.out) | (with_reducible exact HRe.out)) (by omega) (by omega)).mono ?_); rintro e wa ⟨⟨va, rfl, h0a, h1a, hra, hca⟩, zA⟩; have HCa : Hid (Chg g w wa) := (by first | (with_reducible exact Lib.hid (HCd.out.trans hca)) | (with_reducible exact Lib.hid (HCe.out.trans hca))); have HVa : Hid (NetW wa w.heap.size g7 (nb : Int) (.slice lA ls.length lc) ls) := (by first | (with_reducible exact Lib.hid (HVd.out.chg hca hgl hg1)) | (with_reducible exact Lib.hid (HVe.out.chg hca hgl hg1))); have cA := fun h => Chg.cell hca (b := w6.heap.size) h (by omega); clear zA; have hzk := HVa.out.net.lt; have a1 : wa.cell? ⟨g7, 1, none⟩ = some (.slice lA ls.length lc) := HVa.out.net.cell 1; have HRa2 := Lib.hid hra; (obtain ⟨q, hq⟩ : ∃ q : Nat, va = (q : Int) := ⟨va.toNat, (Int.toNat_of_nonneg h0a).symm⟩); subst hq; have hq3 : q < 2 := (by omega); have hq4 : (0 : Int) ≤ (q : Int) := (by omega); have hq5 : (q : Int) < 2 := (by omega); have hq6 := hsel q hq3; have HVb := Lib.hid (HVa.out.alloc (LitB 1000)); have hzb : g7 + 1 ≤ (wa.alloc (LitB 1000)).heap.size := (by simp only [World.size_alloc]; omega); have hzb2 : g7 + 1 ≤ wa.heap.size := (by omega); clear hra hca; have HL_7 := Lib.hid (Own.lit (k := 3) (c := r3C) (B := g7 + 1) wa 58 #[.int .i64 0, .int .i64 1, .int .i64 (selZ 1000 q)] 1 [(⟨0, 1, selZ 1000 q⟩ : R3)] (by first | exact Nat.le_refl _ | omega) rfl (by omega) rfl); have HQ_7 := Lib.hid (HL_7.out.reads rfl).1; have HV_7 := Lib.hid (Own.alloc (HVa.out.lns) (.cells #[.int .i64 0, .int .i64 1, .int .i64 (selZ 1000 q)] 58)); have HK_7 := Lib.hid (Own.blk (HVa.out.lns)); have HL_8 := Lib.hid (Own.lit (k := 3) (c := r3C) (B := g7 + 1) (wa.alloc (LitB 1000)) 58 #[.int .i64 0, .int .i64 1, .int .i64 (selZ 1000 q)] 1 [(⟨0, 1, selZ 1000 q⟩ : R3)] (by first | exact Nat.le_refl _ | omega) rfl (by omega) rfl); have HQ_8 := Lib.hid (HL_8.out.reads rfl).1; have HV_8 := Lib.hid (Own.alloc (HVb.out.lns) (.cells #[.int .i64 0, .int .i64 1, .int .i64 (selZ 1000 q)] 58)); have HK_8 := Lib.hid (Own.blk (HVb.out.lns)); have HQ_8 : Hid (Reads 3 r3C ((wa.alloc (LitB 1000)).alloc (.cells #[.int .i64 0, .int .i64 1, .int .i64 (selZ 1000 q)] 58)) ((wa.alloc (LitB 1000)).alloc (.cells #[.int .i64 0, .int .i64 1, .int .i64 (selZ 1000 q)] 58)).heap.size (some ⟨wa.heap.size + 1, 0, none⟩) [(⟨0, 1, selZ 1000 q⟩ : R3)]) := (by have h := HQ_8.out; have hs : (wa.alloc (LitB 1000)).heap.size = wa.heap.size + 1 := (by simp only [World.size_alloc]); rw [hs] at h; exact Lib.hid h)))
              all_goals
                go_wp2_with fail
                go_meet
                first
                  | exact ⟨nb, _, _, _, _, ⟨(HVa.out.pushL h41 HO_7.out HG_7.out).res, (HVa.out.pushL h41 HO_7.out HG_7.out).net⟩, HO_7.out.drs.setLow (p := ⟨g7, 1, none⟩) (by simp) _, by unfold Hid; simp; omega, ((rdG HRa2.out HVa.out.lns hg1 HG_7.out).set_new hg1 _).more (by omega), (chG HCa.out HVa.out.lns (by omega) HG_7.out).set_new (by omega) _⟩
                  | exact ⟨nb, _, _, _, _, ⟨(HVb.out.pushL h41 HO_8.out HG_8.out).res, (HVb.out.pushL h41 HO_8.out HG_8.out).net⟩, HO_8.out.drs.setLow (p := ⟨g7, 1, none⟩) (by simp) _, by unfold Hid; simp; omega, ((rdG (HRa2.out.alloc _) HVb.out.lns hg1 HG_8.out).set_new hg1 _).more (by omega), (chG (HCa.out.alloc _) HVb.out.lns (by omega) HG_8.out).set_new (by omega) _⟩
            · have hws : (w6.setCell ⟨g7, 1, none⟩ (.slice (some ⟨w6.heap.size, 0, none⟩) 11 11)).heap.size = w6.heap.size := by simp
              have HRow0 := row_made (w6.setCell ⟨g7, 1, none⟩ (.slice (some ⟨w6.heap.size, 0, none⟩) 11 11)) 3 (by omega) (11 * 3) 58
              rw [hws] at HRow0
              have HRow := Lib.hid HRow0; clear HRow0
              have HK1a : Hid (Bk (w6.setCell ⟨g7, 1, none⟩ (.slice (some ⟨w6.heap.size, 0, none⟩) 11 11)) w.heap.size 25 #[.int .i64 0, .slice none 0 0]) := HS6.out.res.far (p := ⟨g7, 1, none⟩) (by simp; omega) _
              have HK2a : Hid (Bk (w6.setCell ⟨g7, 1, none⟩ (.slice (some ⟨w6.heap.size, 0, none⟩) 11 11)) g7 25 #[.int .i64 (nb : Int), .slice (some ⟨w6.heap.size, 0, none⟩) 11 11]) := by
                have := HS6.out.net.set 1 (.slice (some ⟨w6.heap.size, 0, none⟩) 11 11)
                unfold Hid; simpa using this
              have HK1 := Lib.hid (HK1a.out.alloc (.cells (madeCells (Array.replicate 3 (Value.int .i64 0)) (11 * 3)) 58))
              have HK2 := Lib.hid (HK2a.out.alloc (.cells (madeCells (Array.replicate 3 (Value.int .i64 0)) (11 * 3)) 58))
              have HC7 : Hid (Chg g w ((w6.setCell ⟨g7, 1, none⟩ (.slice (some ⟨w6.heap.size, 0, none⟩) 11 11)).alloc (.cells (madeCells (Array.replicate 3 (Value.int .i64 0)) (11 * 3)) 58))) := (HC6.out.set_new (by omega) _).alloc _
              have HR7 : Hid (RdOk 83 ((w6.setCell ⟨g7, 1, none⟩ (.slice (some ⟨w6.heap.size, 0, none⟩) 11 11)).alloc (.cells (madeCells (Array.replicate 3 (Value.int .i64 0)) (11 * 3)) 58)) g (P + 60)) := ((HR_w6.out.set_new hg1 _).alloc _).more (by omega)
              generalize hmc : madeCells (Array.replicate 3 (Value.int .i64 0)) (11 * 3) = mc at HRow HC7 HR7 HK1 HK2
              have hmk2 : ∀ W : World, (Instr.makeSlice 23 (.int .i64 11) (.int .i64 11)).run Tryd.prog W = .ok (.slice (some ⟨W.heap.size, 0, none⟩) 11 11) (W.alloc (.cells mc 58)) := fun W => by rw [← hmc]; exact HMK.out W
              clear hmc HMK HK1a HK2a
              have hdrs : DrS 3 r3C ((w6.setCell ⟨g7, 1, none⟩ (.slice (some ⟨w6.heap.size, 0, none⟩) 11 11)).alloc (.cells mc 58)) (g7 + 1) (.slice (some ⟨w6.heap.size, 0, none⟩) 11 11) (List.replicate 11 (⟨0, 0, 0⟩ : R3)) := by
                refine ⟨_, _, rfl, by simp, by omega, .inr ⟨_, _, rfl, by omega, by simp, fun i x hx j hj => ?_⟩⟩
                have e : x = ⟨0, 0, 0⟩ := (List.mem_replicate.1 (List.mem_of_getElem? hx)).2
                obtain ⟨hi, _⟩ := getElem?_of_lt hx
                simp at hi
                subst e
                rw [Nat.zero_add, HRow.out.cell (by omega)]
                unfold r3C
                split <;> (try split) <;> rfl
              have HDR := Lib.hid hdrs; clear hdrs hws
              go_wp2_with fail
              go_meet
              exact ⟨nb, _, _, _, List.replicate 11 ⟨0, 0, 0⟩, ⟨HK1.out, HK2.out⟩, HDR, by unfold Hid; simp; omega, HR7, HC7⟩
end Go.Proofs.YtdfgdeccejcpfaaDoor
