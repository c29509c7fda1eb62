/- The law FnRampRun: its walk.. -/
import Derived.Test.YtcpopbkcphpdfaaDoorDrQ
import Derived.Test.YtcpopbkcphpdfaaDoorLwT
import Derived.Test.YtcpopbkcphpdfaaDoorLwS
import Derived.Test.YtcpopbkcphpdfaaDoorAlive
import Derived.Test.YtcpopbkcphpdfaaDoorCutS
import Derived.Deep.RegionHeld3
import Derived.Deep.DeepCutAuto
namespace Go.Proofs.YtcpopbkcphpdfaaDoor
open Go.RowKit Go.Deep
set_option linter.unusedSimpArgs false
set_option linter.unusedVariables false

theorem sumZ_U : ∀ xs : List Int, sumZ xs = sumI xs
  | [] => rfl
  | x :: xs => by simp only [sumZ, sumI, sumZ_U xs]
theorem outs_getU {xs : List R4} {ys : List Int} (h : OutsP xs ys) {i : Nat} (hi : i < ys.length) : 0 ≤ ys[i] ∧ ys[i] ≤ 999 := by
  have hx : i < xs.length := by rw [← h.2.1]; exact hi
  have h1 := h.2.2 i hx hi
  have h2 := h.1.2 xs[i] (List.getElem_mem hx); unfold UniOk at h2; omega

set_option maxRecDepth 100000 in
set_option maxHeartbeats 8000000 in
theorem fnRampRun_any (A : Option Addr) (n c : Nat) (bs : List Int) (w : World) (hn : bs.length = n) (hb : ∀ x ∈ bs, U8 x) (hc : n ≤ c) (hcm : c ≤ maxLen) (hR : Reads 1 byteC w w.heap.size A bs) :
    Calls Tryd.prog 13 #[.slice A n c] w fun e w' => e = .returned (.bool true) ∧ Below w.heap.size w w' := by
  unfold maxLen at hcm
  subst hn
  have HR := Lib.hid hR; clear hR
  have HB := Lib.hid hb; clear hb
  have HB_w : Hid (Below w.heap.size w w) := Below.refl _ _
  have hbb : ∀ x : Bool, (x != x) = false := fun x => by simp
  have hnn : ∀ x : Int, (x != x) = false := fun x => by simp
  by_cases hl : ¬ bs.length ≤ 1048576
  · have hl' : (1048576 : Int) < bs.length := by omega
    go_enter Tryd.func13, Tryd.ntmps13
    go_wp2_with fail
    go_ret
    exact ⟨rfl, Below.refl _ _⟩
  have hl : bs.length ≤ 1048576 := by omega
  have hl' : ¬ (1048576 : Int) < bs.length := by omega
  go_enter Tryd.func13, Tryd.ntmps13
  go_wp2_with fail; ((with_reducible refine (drawRampRun_any A c bs w HR.out HB.out hl hc hcm).mono ?_); rintro e w1 ⟨A1, A2, A3, A4, c1, c2, c3, c4, us, rs, ys, ls, rfl, hu1, hu7, hrl, hy7, hys, hl13, hls, hd1, hd2, hd3, hd4, hb_w1⟩); have HB_w1 : Hid (Below w.heap.size w w1) := HB_w.out.trans (hb_w1.mono HB_w.out.size); clear hb_w1
  have HD_w1 := Lib.hid hd1; have HE_w1 := Lib.hid hd2; have HF_w1 := Lib.hid hd3; have HG_w1 := Lib.hid hd4; have HRL := Lib.hid hrl
  have hcap := hd4.cap
  have HLS : Hid (∀ x ∈ ls, I64 x) := fun x hx => by have := hls x hx; unfold I64; omega
  clear hd1 hd2 hd3 hd4 hrl hys hls
  have hul : us.length ≤ 1048576 := by omega
  have hrl1 : rs.length ≤ 1048576 := by rw [HRL.out]; exact hul
  have hyl : ys.length ≤ 1048576 := by omega
  have hll : ls.length ≤ 1048576 := by omega
  go_wp2_with fail; ((with_reducible refine (implRampRun_any A1 A2 A3 A4 c1 c2 c3 c4 us rs ys ls w1 HD_w1.out.reads.1 HE_w1.out.reads.1 HF_w1.out.reads.1 HG_w1.out.reads.1 hul hrl1 hyl hll HLS.out).mono ?_); rintro e w2 ⟨v2, rfl, hr2, hb_w2⟩); have HB_w2 : Hid (Below w.heap.size w w2) := HB_w1.out.trans (hb_w2.mono HB_w1.out.size); have HD_w2 := Lib.hid (HD_w1.out.below hb_w2); have HE_w2 := Lib.hid (HE_w1.out.below hb_w2); have HF_w2 := Lib.hid (HF_w1.out.below hb_w2); have HG_w2 := Lib.hid (HG_w1.out.below hb_w2); clear hb_w2
  have HX_w2 := Lib.hid hr2
  obtain ⟨A5, c5, rfl, _⟩ := hr2
  go_wp2_with fail; ((with_reducible refine (specRampRun_any A1 A2 A3 A4 c1 c2 c3 c4 us rs ys ls w2 HD_w2.out.reads.1 HE_w2.out.reads.1 HF_w2.out.reads.1 HG_w2.out.reads.1 hul hrl1 hyl hll HLS.out).mono ?_); rintro e w3 ⟨v3, rfl, hr3, hb_w3⟩); have HB_w3 : Hid (Below w.heap.size w w3) := HB_w2.out.trans (hb_w3.mono HB_w2.out.size); have HD_w3 := Lib.hid (HD_w2.out.below hb_w3); have HE_w3 := Lib.hid (HE_w2.out.below hb_w3); have HF_w3 := Lib.hid (HF_w2.out.below hb_w3); have HG_w3 := Lib.hid (HG_w2.out.below hb_w3); have HX_w3 := Lib.hid (HX_w2.out.below hb_w3); clear hb_w3
  have HZ_w3 := Lib.hid hr3
  obtain ⟨A6, c6, rfl, _⟩ := hr3
  by_cases hp : RampP us rs ys ∧ ls.length ≤ 12
  · obtain ⟨xs, zs, n, p, e1, e2, hxl, hzl, hpk, hnl, hox, hns, hlt, heq⟩ := hours_law hp.1 hu1 hp.2 (ls.length / 2) (by omega)
    rw [e1] at HX_w3 HZ_w3 ⊢
    simp only at HX_w3 HZ_w3 ⊢
    have h12 : ls.length ≤ 12 := hp.2
    have HOX := Lib.hid (outsB_t.2 hox)
    have HXB : Hid (∀ x ∈ xs, -1000000 ≤ x ∧ x ≤ 1000000) := by
      intro x hx
      obtain ⟨i, hi, rfl⟩ := List.mem_iff_getElem.1 hx
      have := outs_getU hox hi; omega
    have HNS := Lib.hid hns
    have HLT := Lib.hid hlt
    have HXL := Lib.hid hxl
    have HZL := Lib.hid hzl
    have hhe : (ls.take (ls.length / 2)).length = ls.length / 2 := by rw [List.length_take]; omega
    have HC1 : Hid (∀ W, Reads 4 r4C W W.heap.size A1 us → Reads 1 intC W W.heap.size A2 rs → Reads 1 intC W W.heap.size A3 ys → Reads 1 intC W W.heap.size A4 ls → Calls Tryd.prog 50 #[.slice A1 us.length c1, .slice A2 rs.length c2, .slice A3 ys.length c3, .slice A4 ((ls.length / 2 : Nat) : Nat) c4] W (RetN 1 intC 3 W zs (p : Nat))) := fun W r1 r2 r3 r4 => by
      have := implRampRun_any A1 A2 A3 A4 c1 c2 c3 c4 us rs ys (ls.take (ls.length / 2)) W r1 r2 r3 (r4.takeS _) hul hrl1 hyl (by rw [hhe]; omega) (fun x hx => HLS.out x (List.mem_of_mem_take hx))
      rw [e2, hhe] at this; exact this
    have hs1 := slice_take (P := Tryd.prog) (t := 30) (k := 1) (n := ls.length) (A := A4) (cp := c4) (h := ls.length / 2) Tryd.underlying30 (fun _ => rfl) (by omega)
    obtain ⟨A9, hA9, hs2⟩ := slice_drop (α := Int) (P := Tryd.prog) (t := 30) (k := 1) (n := ls.length) (c := intC) (A := A4) (cp := c4) (h := ls.length / 2) (xs := ls) Tryd.underlying30 (fun _ => rfl) rfl (by omega) hcap.1
    have HA9 := Lib.hid hA9
    have hdl : (ls.drop (ls.length / 2)).length = ls.length - ls.length / 2 := List.length_drop
    have HC2 : Hid (p = ls.length / 2 → ∃ q : Nat, q ≤ 12 ∧ ls.length / 2 + q = n ∧ ∀ W A c, Reads 4 r4C W W.heap.size A1 us → Reads 1 intC W W.heap.size A2 rs → Reads 1 intC W W.heap.size A zs → Reads 1 intC W W.heap.size A4 ls → Calls Tryd.prog 50 #[.slice A1 us.length c1, .slice A2 rs.length c2, .slice A zs.length c, .slice A9 (ls.length - ls.length / 2) (c4 - ls.length / 2)] W (RetN 1 intC 3 W xs (q : Nat))) := by
      intro hpe
      obtain ⟨q, hq, hqe, hqn⟩ := heq hpe
      refine ⟨q, hq, hqn, fun W A c r1 r2 r3 r4 => ?_⟩
      have := implRampRun_any A1 A2 A A9 c1 c2 c (c4 - ls.length / 2) us rs zs (ls.drop (ls.length / 2)) W r1 r2 r3 (hA9 _ _ r4) hul hrl1 (by omega) (by rw [hdl]; omega) (fun x hx => HLS.out x (List.mem_of_mem_drop hx))
      rw [hqe, hdl] at this; exact this
    have hxb : xs.length ≤ 7 := by omega
    have hxb1 : 1 ≤ xs.length := by omega
    have hzb : zs.length ≤ 7 := by omega
    clear hlt heq hns hox hp e1 e2 hhe hdl hA9 hxl hzl
    have hx0 : ((xs.length : Int) == 0) = false := beq_eq_false_iff_ne.2 (by omega)
    have hx0' : (xs.length == 0) = false := beq_eq_false_iff_ne.2 (by omega)
    have hnn : ((n : Int) != (n : Int)) = false := by simp
    have hdv : (ls.length : Int).tdiv 2 = ((ls.length / 2 : Nat) : Int) := by rw [Int.tdiv_eq_ediv_of_nonneg (by omega)]; omega
    have hdv2 : (ls.length : Int) / 2 = ((ls.length / 2 : Nat) : Int) := by omega
    have hhn : ls.length / 2 ≤ ls.length := by omega
    obtain ⟨h, hhdef⟩ : ∃ h, ls.length / 2 = h := ⟨_, rfl⟩
    rw [hhdef] at hpk HLT HC1 HC2 hs1 hs2 hdv hdv2 hhn HA9
    clear hhdef
    have HSB : Hid (∀ W, Reads 1 intC W W.heap.size A5 xs → Reads 1 intC W W.heap.size A6 xs → Calls Tryd.prog 35 #[.slice A5 xs.length c5, .slice A6 xs.length c6] W fun e w' => e = .returned (.bool true) ∧ Below W.heap.size W w') := fun W ra rb => sameInts_any A5 A6 c5 c6 xs W ra rb (by omega)
    go_wp2_with fail; ((with_reducible refine (HSB.out w3 HX_w3.out.reads.1 HZ_w3.out.reads.1).mono ?_); rintro e w4 ⟨rfl, hb_w4⟩); have HB_w4 : Hid (Below w.heap.size w w4) := HB_w3.out.trans (hb_w4.mono HB_w3.out.size); have HD_w4 := Lib.hid (HD_w3.out.below hb_w4); have HE_w4 := Lib.hid (HE_w3.out.below hb_w4); have HF_w4 := Lib.hid (HF_w3.out.below hb_w4); have HG_w4 := Lib.hid (HG_w3.out.below hb_w4); have HX_w4 := Lib.hid (HX_w3.out.below hb_w4); clear hb_w4
    go_wp2_with fail; ((with_reducible refine (HC1.out w4 HD_w4.out.reads.1 HE_w4.out.reads.1 HF_w4.out.reads.1 HG_w4.out.reads.1).mono ?_); rintro e w5 ⟨v5, rfl, hr5, hb_w5⟩); have HB_w5 : Hid (Below w.heap.size w w5) := HB_w4.out.trans (hb_w5.mono HB_w4.out.size); have HD_w5 := Lib.hid (HD_w4.out.below hb_w5); have HE_w5 := Lib.hid (HE_w4.out.below hb_w5); have HF_w5 := Lib.hid (HF_w4.out.below hb_w5); have HG_w5 := Lib.hid (HG_w4.out.below hb_w5); have HX_w5 := Lib.hid (HX_w4.out.below hb_w5); clear hb_w5
    have HY_w5 := Lib.hid hr5
    obtain ⟨A7, c7, rfl, _⟩ := hr5
    by_cases hph : p < h
    · obtain ⟨rfl, rfl⟩ := HLT.out hph
      have hph1 : (p : Int) < (h : Int) := by omega
      have hpp : ((p : Int) == (p : Int)) = true := by simp
      go_wp2_with fail; ((with_reducible refine (sameInts_any A7 A5 c7 c5 zs _ HY_w5.out.reads.1 HX_w5.out.reads.1 (by omega)).mono ?_); rintro e w6 ⟨rfl, hb_w6⟩); have HB_w6 : Hid (Below w.heap.size w w6) := HB_w5.out.trans (hb_w6.mono HB_w5.out.size); clear hb_w6
      go_wp2_with fail
      go_ret
      exact ⟨rfl, HB_w6.out⟩
    · obtain rfl : p = h := by omega
      obtain ⟨q, hq12, hqn, HC3⟩ := HC2.out rfl
      have HC3' := Lib.hid HC3
      clear HC2 HC3
      have hph1 : ¬ (p : Int) < (p : Int) := by omega
      go_wp2_with fail; ((with_reducible refine (HC3'.out w5 A7 c7 HD_w5.out.reads.1 HE_w5.out.reads.1 HY_w5.out.reads.1 HG_w5.out.reads.1).mono ?_); rintro e w6 ⟨v6, rfl, hr6, hb_w6⟩); have HB_w6 : Hid (Below w.heap.size w w6) := HB_w5.out.trans (hb_w6.mono HB_w5.out.size); have HD_w6 := Lib.hid (HD_w5.out.below hb_w6); have HG_w6 := Lib.hid (HG_w5.out.below hb_w6); have HX_w6 := Lib.hid (HX_w5.out.below hb_w6); clear hb_w6
      have HV_w6 := Lib.hid hr6
      obtain ⟨A8, c8, rfl, _⟩ := hr6
      have hxl5 : xs.length ≤ 1048576 := by omega
      have hpq : ((p : Int) + (q : Int) == (n : Int)) = true := by rw [beq_iff_eq]; omega
      have hwp : IntKind.i64.wrap ((p : Int) + (q : Int)) = (p : Int) + (q : Int) := IntWalk.i64_in _ (by omega)
      have HVd : Hid (Reads 1 intC w6.drew w6.drew.heap.size A8 xs) := HV_w6.out.reads.1
      have HXd : Hid (Reads 1 intC w6.drew w6.drew.heap.size A5 xs) := HX_w6.out.reads.1
      have HXr : Hid (Res 1 intC 3 w6.drew w1.heap.size (.slice A5 xs.length c5) xs) := HX_w6.out
      have HDd : Hid (DrS 4 r4C w6.drew w.heap.size (.slice A1 us.length c1) us) := HD_w6.out
      have HBd : Hid (Below w.heap.size w w6.drew) := HB_w6.out.drew
      have HOV : Hid (∀ W, Reads 4 r4C W W.heap.size A1 us → Reads 1 intC W W.heap.size A5 xs → Calls Tryd.prog 20 #[.slice A1 us.length c1, .slice A5 xs.length c5] W fun e w' => e = .returned (.bool true) ∧ Below W.heap.size W w') := fun W h1 h2 => by
        have := implOutputsValid_any A1 A5 c1 c5 us xs W h1 h2 hul hxl5
        rw [HOX.out] at this; exact this
      rcases HNS.out with hn0 | ⟨hn1, hsum⟩
      · have hn01 : ((n : Int) == 0) = true := by rw [hn0]; rfl
        have hn02 : (n == 0) = true := by rw [hn0]; rfl
        clear hn0
        go_wp2_with fail
        refine wp_region_held_drew (S := fun _ => True) (by kernel_rfl) trivial (fun hHeld => ?_)
        (refine wpAnyH_take (i := 0) (v := ?_) rfl (by kernel_rfl) (by kernel_rfl) (by kernel_rfl) (fun _ _ _ h => h) (Or.inl ⟨by rfl, ?_⟩) trivial ?_; rotate_left; focus (intro w hSw; go_simp <;> with_reducible rfl)); try simp only [Act.put, List.getElem_toArray, List.getElem_cons_zero, List.getElem_cons_succ, List.setIfInBounds_toArray, List.set_cons_zero, List.set_cons_succ]
        (refine wpAnyH_take (i := 1) (v := ?_) rfl (by kernel_rfl) (by kernel_rfl) (by kernel_rfl) (fun _ _ _ h => h) (Or.inl ⟨by rfl, ?_⟩) trivial ?_; rotate_left; focus (intro w hSw; go_simp <;> with_reducible rfl)); try simp only [Act.put, List.getElem_toArray, List.getElem_cons_zero, List.getElem_cons_succ, List.setIfInBounds_toArray, List.set_cons_zero, List.set_cons_succ]
        (refine wpAnyH_ready (rs := [2]) (by kernel_rfl) (by simp) ?_; refine AllReadyH.cons rfl (fun K hK => ?_) AllReadyH.nil; go_simp; go_wp2_with (first | (go_at_call 35; (with_reducible refine (sameInts_any A8 A5 c8 c5 xs _ (by with_reducible exact HVd.out) (by with_reducible exact HXd.out) hxl5).mono ?_); rintro e w7 ⟨rfl, hb7⟩; have HB7 : Hid (Below w.heap.size w w7) := HBd.out.trans (hb7.mono HBd.out.size); have HX7 := Lib.hid (HXr.out.below hb7); have HD7 := Lib.hid (HDd.out.below hb7); clear hb7)); refine hK.out _ _ trivial (fun hHeld => ?_); clear hK K)
        (refine wpAnyH_take (i := 3) (v := ?_) rfl (by kernel_rfl) (by kernel_rfl) (by kernel_rfl) (fun _ _ _ h => h) (Or.inl ⟨by rfl, ?_⟩) trivial ?_; rotate_left; focus (intro w hSw; go_simp <;> with_reducible rfl)); try simp only [Act.put, List.getElem_toArray, List.getElem_cons_zero, List.getElem_cons_succ, List.setIfInBounds_toArray, List.set_cons_zero, List.set_cons_succ]
        (refine wpAnyH_take (i := 4) (v := ?_) rfl (by kernel_rfl) (by kernel_rfl) (by kernel_rfl) (fun _ _ _ h => h) (Or.inl ⟨by rfl, ?_⟩) trivial ?_; rotate_left; focus (intro w hSw; go_simp <;> with_reducible rfl)); try simp only [Act.put, List.getElem_toArray, List.getElem_cons_zero, List.getElem_cons_succ, List.setIfInBounds_toArray, List.set_cons_zero, List.set_cons_succ]
        (refine wpAnyH_take (i := 5) (v := ?_) rfl (by kernel_rfl) (by kernel_rfl) (by kernel_rfl) (fun _ _ _ h => h) (Or.inl ⟨by rfl, ?_⟩) trivial ?_; rotate_left; focus (intro w hSw; go_simp <;> with_reducible rfl)); try simp only [Act.put, List.getElem_toArray, List.getElem_cons_zero, List.getElem_cons_succ, List.setIfInBounds_toArray, List.set_cons_zero, List.set_cons_succ]
        (refine wpAnyH_take (i := 6) (v := ?_) rfl (by kernel_rfl) (by kernel_rfl) (by kernel_rfl) (fun _ _ _ h => h) (Or.inl ⟨by rfl, ?_⟩) trivial ?_; rotate_left; focus (intro w hSw; go_simp <;> with_reducible rfl)); try simp only [Act.put, List.getElem_toArray, List.getElem_cons_zero, List.getElem_cons_succ, List.setIfInBounds_toArray, List.set_cons_zero, List.set_cons_succ]
        (refine wpAnyH_take (i := 7) (v := ?_) rfl (by kernel_rfl) (by kernel_rfl) (by kernel_rfl) (fun _ _ _ h => h) (Or.inl ⟨by rfl, ?_⟩) trivial ?_; rotate_left; focus (intro w hSw; go_simp <;> with_reducible rfl)); try simp only [Act.put, List.getElem_toArray, List.getElem_cons_zero, List.getElem_cons_succ, List.setIfInBounds_toArray, List.set_cons_zero, List.set_cons_succ]
        (refine wpAnyH_take (i := 8) (v := ?_) rfl (by kernel_rfl) (by kernel_rfl) (by kernel_rfl) (fun _ _ _ h => h) (Or.inl ⟨by rfl, ?_⟩) trivial ?_; rotate_left; focus (intro w hSw; go_simp <;> with_reducible rfl)); try simp only [Act.put, List.getElem_toArray, List.getElem_cons_zero, List.getElem_cons_succ, List.setIfInBounds_toArray, List.set_cons_zero, List.set_cons_succ]
        (refine wpAnyH_take (i := 9) (v := ?_) rfl (by kernel_rfl) (by kernel_rfl) (by kernel_rfl) (fun _ _ _ h => h) (Or.inl ⟨by rfl, ?_⟩) trivial ?_; rotate_left; focus (intro w hSw; go_simp <;> with_reducible rfl)); try simp only [Act.put, List.getElem_toArray, List.getElem_cons_zero, List.getElem_cons_succ, List.setIfInBounds_toArray, List.set_cons_zero, List.set_cons_succ]
        (refine wpAnyH_take (i := 10) (v := ?_) rfl (by kernel_rfl) (by kernel_rfl) (by kernel_rfl) (fun _ _ _ h => h) (Or.inl ⟨by rfl, ?_⟩) trivial ?_; rotate_left; focus (intro w hSw; go_simp <;> with_reducible rfl)); try simp only [Act.put, List.getElem_toArray, List.getElem_cons_zero, List.getElem_cons_succ, List.setIfInBounds_toArray, List.set_cons_zero, List.set_cons_succ]
        (refine wpAnyH_take (i := 11) (v := ?_) rfl (by kernel_rfl) (by kernel_rfl) (by kernel_rfl) (fun _ _ _ h => h) (Or.inl ⟨by rfl, ?_⟩) trivial ?_; rotate_left; focus (intro w hSw; go_simp <;> with_reducible rfl)); try simp only [Act.put, List.getElem_toArray, List.getElem_cons_zero, List.getElem_cons_succ, List.setIfInBounds_toArray, List.set_cons_zero, List.set_cons_succ]
        (refine wpAnyH_take (i := 12) (v := ?_) rfl (by kernel_rfl) (by kernel_rfl) (by kernel_rfl) (fun _ _ _ h => h) (Or.inl ⟨by rfl, ?_⟩) trivial ?_; rotate_left; focus (intro w hSw; go_simp <;> with_reducible rfl)); try simp only [Act.put, List.getElem_toArray, List.getElem_cons_zero, List.getElem_cons_succ, List.setIfInBounds_toArray, List.set_cons_zero, List.set_cons_succ]
        (refine wpAnyH_ready (rs := [13]) (by kernel_rfl) (by simp) ?_; refine AllReadyH.cons rfl (fun K hK => ?_) AllReadyH.nil; go_simp; go_wp2_with (first | (go_at_call 20; (with_reducible refine (HOV.out _ (by with_reducible exact HD7.out.reads.1) (by with_reducible exact HX7.out.reads.1)).mono ?_); rintro e w8 ⟨rfl, hb8⟩; have HB8 : Hid (Below w.heap.size w w8) := HB7.out.trans (hb8.mono HB7.out.size); clear hb8)); refine hK.out _ _ trivial (fun hHeld => ?_); clear hK K)
        (refine wpAnyH_take (i := 14) (v := ?_) rfl (by kernel_rfl) (by kernel_rfl) (by kernel_rfl) (fun _ _ _ h => h) (Or.inl ⟨by rfl, ?_⟩) trivial ?_; rotate_left; focus (intro w hSw; go_simp <;> with_reducible rfl)); try simp only [Act.put, List.getElem_toArray, List.getElem_cons_zero, List.getElem_cons_succ, List.setIfInBounds_toArray, List.set_cons_zero, List.set_cons_succ]
        (refine wpAnyH_take (i := 15) (v := ?_) rfl (by kernel_rfl) (by kernel_rfl) (by kernel_rfl) (fun _ _ _ h => h) (Or.inl ⟨by rfl, ?_⟩) trivial ?_; rotate_left; focus (intro w hSw; go_simp <;> with_reducible rfl)); try simp only [Act.put, List.getElem_toArray, List.getElem_cons_zero, List.getElem_cons_succ, List.setIfInBounds_toArray, List.set_cons_zero, List.set_cons_succ]
        (refine wpAnyH_take (i := 16) (v := ?_) rfl (by kernel_rfl) (by kernel_rfl) (by kernel_rfl) (fun _ _ _ h => h) (Or.inl ⟨by rfl, ?_⟩) trivial ?_; rotate_left; focus (intro w hSw; go_simp <;> with_reducible rfl)); try simp only [Act.put, List.getElem_toArray, List.getElem_cons_zero, List.getElem_cons_succ, List.setIfInBounds_toArray, List.set_cons_zero, List.set_cons_succ]
        (refine wpAnyH_take (i := 17) (v := ?_) rfl (by kernel_rfl) (by kernel_rfl) (by kernel_rfl) (fun _ _ _ h => h) (Or.inl ⟨by rfl, ?_⟩) trivial ?_; rotate_left; focus (intro w hSw; go_simp <;> with_reducible rfl)); try simp only [Act.put, List.getElem_toArray, List.getElem_cons_zero, List.getElem_cons_succ, List.setIfInBounds_toArray, List.set_cons_zero, List.set_cons_succ]
        (refine wpAnyH_take (i := 18) (v := ?_) rfl (by kernel_rfl) (by kernel_rfl) (by kernel_rfl) (fun _ _ _ h => h) (Or.inl ⟨by rfl, ?_⟩) trivial ?_; rotate_left; focus (intro w hSw; go_simp <;> with_reducible rfl)); try simp only [Act.put, List.getElem_toArray, List.getElem_cons_zero, List.getElem_cons_succ, List.setIfInBounds_toArray, List.set_cons_zero, List.set_cons_succ]
        (refine wpAnyH_take (i := 19) (v := undef) rfl (by kernel_rfl) (by kernel_rfl) (by kernel_rfl) (fun _ _ _ h => h) (Or.inr ⟨by rfl, rfl⟩) trivial ?_); try simp only [Act.put, List.getElem_toArray, List.getElem_cons_zero, List.getElem_cons_succ, List.setIfInBounds_toArray, List.set_cons_zero, List.set_cons_succ]
        (refine wpAnyH_take (i := 20) (v := undef) rfl (by kernel_rfl) (by kernel_rfl) (by kernel_rfl) (fun _ _ _ h => h) (Or.inr ⟨by rfl, rfl⟩) trivial ?_); try simp only [Act.put, List.getElem_toArray, List.getElem_cons_zero, List.getElem_cons_succ, List.setIfInBounds_toArray, List.set_cons_zero, List.set_cons_succ]
        (refine wpAnyH_take (i := 21) (v := undef) rfl (by kernel_rfl) (by kernel_rfl) (by kernel_rfl) (fun _ _ _ h => h) (Or.inr ⟨by rfl, rfl⟩) trivial ?_); try simp only [Act.put, List.getElem_toArray, List.getElem_cons_zero, List.getElem_cons_succ, List.setIfInBounds_toArray, List.set_cons_zero, List.set_cons_succ]
        (refine wpAnyH_take (i := 22) (v := undef) rfl (by kernel_rfl) (by kernel_rfl) (by kernel_rfl) (fun _ _ _ h => h) (Or.inr ⟨by rfl, rfl⟩) trivial ?_); try simp only [Act.put, List.getElem_toArray, List.getElem_cons_zero, List.getElem_cons_succ, List.setIfInBounds_toArray, List.set_cons_zero, List.set_cons_succ]
        (refine wpAnyH_take (i := 23) (v := undef) rfl (by kernel_rfl) (by kernel_rfl) (by kernel_rfl) (fun _ _ _ h => h) (Or.inr ⟨by rfl, rfl⟩) trivial ?_); try simp only [Act.put, List.getElem_toArray, List.getElem_cons_zero, List.getElem_cons_succ, List.setIfInBounds_toArray, List.set_cons_zero, List.set_cons_succ]
        (refine wpAnyH_take (i := 24) (v := undef) rfl (by kernel_rfl) (by kernel_rfl) (by kernel_rfl) (fun _ _ _ h => h) (Or.inr ⟨by rfl, rfl⟩) trivial ?_); try simp only [Act.put, List.getElem_toArray, List.getElem_cons_zero, List.getElem_cons_succ, List.setIfInBounds_toArray, List.set_cons_zero, List.set_cons_succ]
        (refine wpAnyH_take (i := 25) (v := undef) rfl (by kernel_rfl) (by kernel_rfl) (by kernel_rfl) (fun _ _ _ h => h) (Or.inr ⟨by rfl, rfl⟩) trivial ?_); try simp only [Act.put, List.getElem_toArray, List.getElem_cons_zero, List.getElem_cons_succ, List.setIfInBounds_toArray, List.set_cons_zero, List.set_cons_succ]
        (refine wpAnyH_take (i := 26) (v := undef) rfl (by kernel_rfl) (by kernel_rfl) (by kernel_rfl) (fun _ _ _ h => h) (Or.inr ⟨by rfl, rfl⟩) trivial ?_); try simp only [Act.put, List.getElem_toArray, List.getElem_cons_zero, List.getElem_cons_succ, List.setIfInBounds_toArray, List.set_cons_zero, List.set_cons_succ]
        (refine wpAnyH_take (i := 27) (v := ?_) rfl (by kernel_rfl) (by kernel_rfl) (by kernel_rfl) (fun _ _ _ h => h) (Or.inl ⟨by rfl, ?_⟩) trivial ?_; rotate_left; focus (intro w hSw; go_simp <;> with_reducible rfl)); try simp only [Act.put, List.getElem_toArray, List.getElem_cons_zero, List.getElem_cons_succ, List.setIfInBounds_toArray, List.set_cons_zero, List.set_cons_succ]
        (refine wpAnyH_take (i := 28) (v := ?_) rfl (by kernel_rfl) (by kernel_rfl) (by kernel_rfl) (fun _ _ _ h => h) (Or.inl ⟨by rfl, ?_⟩) trivial ?_; rotate_left; focus (intro w hSw; go_simp <;> with_reducible rfl)); try simp only [Act.put, List.getElem_toArray, List.getElem_cons_zero, List.getElem_cons_succ, List.setIfInBounds_toArray, List.set_cons_zero, List.set_cons_succ]
        (refine wpAnyH_take (i := 29) (v := ?_) rfl (by kernel_rfl) (by kernel_rfl) (by kernel_rfl) (fun _ _ _ h => h) (Or.inl ⟨by rfl, ?_⟩) trivial ?_; rotate_left; focus (intro w hSw; go_simp <;> with_reducible rfl)); try simp only [Act.put, List.getElem_toArray, List.getElem_cons_zero, List.getElem_cons_succ, List.setIfInBounds_toArray, List.set_cons_zero, List.set_cons_succ]
        refine wpAnyH_done (by kernel_rfl) ?_ _
        go_wp2_with fail
        go_ret
        exact ⟨rfl, HB8.out⟩
      · obtain ⟨m, hm⟩ : ∃ m, n - 1 = m := ⟨_, rfl⟩
        have hn01 : ((n : Int) == 0) = false := beq_eq_false_iff_ne.2 (by omega)
        have hn02 : (n == 0) = false := beq_eq_false_iff_ne.2 (by omega)
        have hml : m < ls.length := by omega
        have hm1 : IntKind.i64.wrap ((n : Int) - 1) = (m : Int) := by rw [IntWalk.i64_in _ (by omega)]; omega
        obtain ⟨b, off, hA4, hbz, k1⟩ := HG_w6.out.reads.1.at1 hml
        subst hA4
        have k1' : w6.cell? ⟨b, off + m, none⟩ = some (.int .i64 ls[m]) := k1
        have hsx : sumZ xs = ls[m] := by rw [sumZ_U, hsum, hm]; exact gI_get hml
        clear k1 hsum
        have hmi : (m : Int) < (ls.length : Int) := by omega
        have hm0 : (0 : Int) ≤ (m : Int) := by omega
        generalize ls[m] = L at k1' hsx
        have HSO : Hid (∀ W, Reads 1 intC W W.heap.size A5 xs → Calls Tryd.prog 36 #[.slice A5 xs.length c5] W fun e w' => e = .returned (.int .i64 L) ∧ Below W.heap.size W w') := fun W h => by
          have := sumOf_any A5 c5 xs W h (by omega) HXB.out
          rw [hsx] at this; exact this
        clear hsx hm hn1
        have hLL : (L == L) = true := by simp
        go_wp2_with fail
        go_region_held3 (fun w' => w'.cell? ⟨b, off + m, none⟩ = some (.int .i64 L)) (simp [go_sem, *])
          (first | (go_at_call 35; (with_reducible refine (sameInts_any A8 A5 c8 c5 xs _ (by with_reducible exact HVd.out) (by with_reducible exact HXd.out) hxl5).mono ?_); rintro e w7 ⟨rfl, hb7⟩; have HB7 : Hid (Below w.heap.size w w7) := HBd.out.trans (hb7.mono HBd.out.size); have HX7 := Lib.hid (HXr.out.below hb7); have HD7 := Lib.hid (HDd.out.below hb7); have q7 := keepB hb7 (g := b) (by exact hbz); have z7 := keepZ hb7 (g := b) (by exact hbz); clear hb7)
                 | (go_at_call 20; (with_reducible refine (HOV.out _ (by with_reducible exact HD7.out.reads.1) (by with_reducible exact HX7.out.reads.1)).mono ?_); rintro e w8 ⟨rfl, hb8⟩; have HB8 : Hid (Below w.heap.size w w8) := HB7.out.trans (hb8.mono HB7.out.size); have HX8 := Lib.hid (HX7.out.below hb8); have q8 := keepB hb8 (g := b) (by exact z7); have z8 := keepZ hb8 (g := b) (by exact z7); clear hb8)
                 | (go_at_call 36; (with_reducible refine (HSO.out _ (by with_reducible exact HX8.out.reads.1)).mono ?_); rintro e w9 ⟨rfl, hb9⟩; have HB9 : Hid (Below w.heap.size w w9) := HB8.out.trans (hb9.mono HB8.out.size); have q9 := keepB hb9 (g := b) (by exact z8); clear hb9))
        go_wp2_with fail
        go_ret
        exact ⟨rfl, HB9.out⟩
  · have e := rrunO_f hp
    rw [e] at HX_w3 HZ_w3 ⊢
    clear e hp
    have HSB : Hid (∀ W, Calls Tryd.prog 35 #[.slice A5 0 c5, .slice A6 0 c6] W fun e w' => e = .returned (.bool true) ∧ Below W.heap.size W w') := fun W => sameInts_any A5 A6 c5 c6 [] W reads_nil reads_nil (by simp)
    go_wp2_with fail
    with_reducible refine (HSB.out w3).mono ?_
    rintro e w4 ⟨rfl, hb4⟩
    have HB_w4 : Hid (Below w.heap.size w w4) := HB_w3.out.trans (hb4.mono HB_w3.out.size)
    clear hb4
    go_wp2_with fail; ((with_reducible refine (alive_any w4).mono ?_); rintro e w5 ⟨rfl, hb_w5⟩); have HB_w5 : Hid (Below w.heap.size w w5) := HB_w4.out.trans (hb_w5.mono HB_w4.out.size); clear hb_w5
    go_wp2_with fail
    go_ret
    exact ⟨rfl, HB_w5.out⟩
end Go.Proofs.YtcpopbkcphpdfaaDoor
