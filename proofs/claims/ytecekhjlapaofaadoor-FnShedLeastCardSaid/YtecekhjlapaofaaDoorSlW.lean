/- The law FnShedLeast: its walk. -/
import Derived.Test.YtecekhjlapaofaaDoorSfW
import Derived.Test.YtecekhjlapaofaaDoorShM
import Derived.Test.YtecekhjlapaofaaDoorShN
import Derived.Test.YtecekhjlapaofaaDoorShL
namespace Go.Proofs.YtecekhjlapaofaaDoor
open Go.RowKit Go.Deep
set_option linter.unusedSimpArgs false
set_option linter.unusedVariables false
theorem slO_I64 {xs : List R2} {L : Int} {x : List Int} (h : slO xs L = some x) : ∀ y ∈ x, I64 y := by
  unfold slO at h
  split at h
  · split at h
    · cases h
    · injection h with h; subst h; exact setIdx_I64 _
  · cases h
theorem preI_full {s n : Nat} (hn : n ≤ 8) (hs : s < 2 ^ n) : preI s n = setIdx s := by
  unfold preI setIdx setN
  congr 1
  rw [List.range_eq_range', List.range_eq_range', show (8 : Nat) = n + (8 - n) by omega, ← List.range'_append_1, List.filter_append]
  have : (List.range' (0 + n) (8 - n)).filter (bitN s) = [] := by
    rw [List.filter_eq_nil_iff]
    intro k hk
    rw [List.mem_range'_1] at hk
    have h2 : s < 2 ^ k := Nat.lt_of_lt_of_le hs (Nat.pow_le_pow_right (by omega) (by omega))
    unfold bitN
    rw [Nat.div_eq_of_lt h2]; simp
  rw [this, List.append_nil]

set_option maxRecDepth 100000 in
set_option maxHeartbeats 8000000 in
theorem fnShedLeast_any (A : Option Addr) (n c : Nat) (bs : List Int) (w : World) (hn : bs.length = n) (hb : ∀ x ∈ bs, U8 x) (hc : n ≤ c) (hcm : c ≤ maxLen) (hR : Reads 1 byteC w w.heap.size A bs) (hT : TabOk w) :
    Calls Tryd.prog 6 #[.slice A n c] w fun e w' => e = .returned (.bool true) ∧ Below w.heap.size w w' := by
  unfold maxLen at hcm
  subst hn
  have HR := Lib.hid hR; clear hR
  have HB := Lib.hid hb; clear hb
  have HT := Lib.hid hT; clear hT
  have HB_w : Hid (Below w.heap.size w w) := Below.refl _ _
  have hbb : ∀ x : Bool, (x != x) = false := fun x => by simp
  have hnn : ∀ x : Int, (x != x) = false := fun x => by simp
  by_cases hl : ¬ bs.length ≤ 1048576
  · have hl' : (1048576 : Int) < bs.length := by omega
    go_enter Tryd.func6, Tryd.ntmps6
    go_wp2_with fail
    go_ret
    exact ⟨rfl, Below.refl _ _⟩
  have hl : bs.length ≤ 1048576 := by omega
  have hl' : ¬ (1048576 : Int) < bs.length := by omega
  go_enter Tryd.func6, Tryd.ntmps6
  go_wp2_with fail; ((with_reducible refine (drawShedLeast_any A c bs w HR.out HB.out hl hc hcm).mono ?_); rintro e w1 ⟨A1, c1, xs, L, rfl, hx9, hL0, hL1, hd, hb_w1⟩); have HB_w1 : Hid (Below w.heap.size w w1) := HB_w.out.trans (hb_w1.mono HB_w.out.size); clear hb_w1
  have HD_w1 := Lib.hid hd
  clear hd
  have HT1 : Hid (TabOk w1) := HT.out.keep HB_w1.out
  have hxl : xs.length ≤ 1048576 := by omega
  have hLI : Hid (I64 L) := by unfold Hid I64; omega
  go_wp2_with fail; ((with_reducible refine (implShedLeast_any A1 c1 xs L w1 HT1.out HD_w1.out.reads.1 hxl).mono ?_); rintro e w2 ⟨v2, rfl, hr2, hb_w2⟩); have HB_w2 : Hid (Below w.heap.size w w2) := HB_w1.out.trans (hb_w2.mono HB_w1.out.size); have HD_w2 := Lib.hid (HD_w1.out.below hb_w2); clear hb_w2
  have HX_w2 := Lib.hid hr2
  obtain ⟨A2, c2, rfl, _⟩ := hr2
  go_wp2_with fail; ((with_reducible refine (specShedLeast_any A1 c1 xs L w2 HD_w2.out.reads.1 hxl).mono ?_); rintro e w3 ⟨v3, rfl, hr3, hb_w3⟩); have HB_w3 : Hid (Below w.heap.size w w3) := HB_w2.out.trans (hb_w3.mono HB_w2.out.size); have HD_w3 := Lib.hid (HD_w2.out.below hb_w3); have HX_w3 := Lib.hid (HX_w2.out.below hb_w3); clear hb_w3
  have HZ_w3 := Lib.hid hr3
  obtain ⟨A3, c3, rfl, _⟩ := hr3
  have hxo := slO_len xs L
  have HLAW : Hid (∀ x, slO xs L = some x → (BlksP xs ∧ SlLaw xs L x) ∧ ∀ y ∈ x, I64 y) := fun x h => ⟨sl_law h, slO_I64 h⟩
  have HNON : Hid (slO xs L = none → sfO xs L = none) := fun h => sl_none h
  generalize slO xs L = O at *
  cases O with
  | none =>
    have hno := HNON.out rfl
    have HCF : Hid (∀ W, Reads 2 r2C W W.heap.size A1 xs → Calls Tryd.prog 9 #[.slice A1 xs.length c1, .int .i64 L] W (RetP 1 intC 3 W [] false)) := fun W h => by have := implShedFirst_any A1 c1 xs L hLI.out W h hxl; rw [hno] at this; exact this
    simp only [Option.getD_none, Option.isSome_none] at *
    clear HLAW HNON hno
    have HSN : Hid (∀ W, Calls Tryd.prog 11 #[.slice A2 0 c2, .slice A3 0 c3] W fun e w' => e = .returned (.bool true) ∧ Below W.heap.size W w') := fun W => sameInts_any A2 A3 c2 c3 [] W (.inl rfl) (.inl rfl) (by simp)
    go_wp2_with fail; ((with_reducible refine (HSN.out w3).mono ?_); rintro e w4 ⟨rfl, hb_w4⟩); have HB_w4 : Hid (Below w.heap.size w w4) := HB_w3.out.trans (hb_w4.mono HB_w3.out.size); have HD_w4 := Lib.hid (HD_w3.out.below hb_w4); clear hb_w4
    go_wp2_with fail; ((with_reducible refine (HCF.out w4 HD_w4.out.reads.1).mono ?_); rintro e w5 ⟨v5, rfl, hr5, hb_w5⟩); have HB_w5 : Hid (Below w.heap.size w w5) := HB_w4.out.trans (hb_w5.mono HB_w4.out.size); clear hb_w5
    obtain ⟨A4, c4, rfl, _⟩ := hr5
    go_wp2_with fail; ((with_reducible refine (alive_any w5).mono ?_); rintro e w6 ⟨rfl, hb_w6⟩); have HB_w6 : Hid (Below w.heap.size w w6) := HB_w5.out.trans (hb_w6.mono HB_w5.out.size); clear hb_w6
    go_wp2_with fail
    go_ret
    exact ⟨rfl, HB_w6.out⟩
  | some x =>
    obtain ⟨⟨hB, ⟨⟨y, hy, hxy, hy0, hy1⟩, hsum, HBEST, HASC⟩⟩, HXI⟩ := HLAW.out x rfl
    have HBEST := Lib.hid HBEST; have HASC := Lib.hid HASC; have HXI := Lib.hid HXI
    have HCF : Hid (∀ W, Reads 2 r2C W W.heap.size A1 xs → Calls Tryd.prog 9 #[.slice A1 xs.length c1, .int .i64 L] W (RetP 1 intC 3 W y true)) := fun W h => by have := implShedFirst_any A1 c1 xs L hLI.out W h hxl; rw [hy] at this; exact this
    have HYI : Hid (∀ z ∈ y, I64 z) := fun z hz => by have := (sf_law hy).2.low z hz; unfold I64; omega
    have hyl : y.length ≤ 8 := by have := sfO_len xs L; rw [hy] at this; exact this
    simp only [Option.getD_some, Option.isSome_some] at *
    clear HLAW HNON hy
    have h8 := hB.1
    have HP := Lib.hid hB; clear hB
    have hx8 : x.length ≤ 1048576 := by omega
    have hy8 : y.length ≤ 1048576 := by omega
    go_wp2_with fail; ((with_reducible refine (sameInts_any A2 A3 c2 c3 x w3 HX_w3.out.reads.1 HZ_w3.out.reads.1 hx8).mono ?_); rintro e w4 ⟨rfl, hb_w4⟩); have HB_w4 : Hid (Below w.heap.size w w4) := HB_w3.out.trans (hb_w4.mono HB_w3.out.size); have HD_w4 := Lib.hid (HD_w3.out.below hb_w4); have HX_w4 := Lib.hid (HX_w3.out.below hb_w4); clear hb_w4
    go_wp2_with fail; ((with_reducible refine (HCF.out w4 HD_w4.out.reads.1).mono ?_); rintro e w5 ⟨v5, rfl, hr5, hb_w5⟩); have HB_w5 : Hid (Below w.heap.size w w5) := HB_w4.out.trans (hb_w5.mono HB_w4.out.size); have HD_w5 := Lib.hid (HD_w4.out.below hb_w5); have HX_w5 := Lib.hid (HX_w4.out.below hb_w5); clear hb_w5
    have HY_w5 := Lib.hid hr5
    obtain ⟨A4, c4, rfl, _⟩ := hr5
    go_wp2_with fail; ((with_reducible refine (implShedSum_n A1 A2 xs.length x.length c1 c2 xs x w5 rfl rfl HD_w5.out.reads.1 HX_w5.out.reads.1 HXI.out hxl hx8).mono ?_); rintro e w6 ⟨rfl, hb_w6⟩); have HB_w6 : Hid (Below w.heap.size w w6) := HB_w5.out.trans (hb_w6.mono HB_w5.out.size); have HD_w6 := Lib.hid (HD_w5.out.below hb_w6); have HX_w6 := Lib.hid (HX_w5.out.below hb_w6); have HY_w6 := Lib.hid (HY_w5.out.below hb_w6); clear hb_w6
    have HCS : Hid (∀ W (A : Option Addr) (cp m : Nat) (ys : List Int), (∀ y ∈ ys, I64 y) → ys.length = m → m ≤ 1048576 → Reads 2 r2C W W.heap.size A1 xs → Reads 1 intC W W.heap.size A ys → Calls Tryd.prog 14 #[.slice A1 xs.length c1, .slice A m cp] W fun e w' => e = .returned (.int .i64 (shedSum xs ys)) ∧ Below W.heap.size W w') := fun W A cp m ys h1 h2 h3 h4 h5 => implShedSum_n A1 A xs.length m c1 cp xs ys W rfl h2 h4 h5 h1 hxl h3
    obtain ⟨U, hU⟩ : ∃ U, shedSum xs y = U := ⟨_, rfl⟩
    rw [hU] at hxy hy0 hy1
    have HU := Lib.hid hU; clear hU
    obtain ⟨S, hS⟩ : ∃ S, shedSum xs x = S := ⟨_, rfl⟩
    rw [hS] at hsum hxy ⊢
    have HBEST2 : Hid (∀ s, s < 2 ^ xs.length → ¬ (L ≤ shedSum xs (setIdx s) ∧ (shedSum xs (setIdx s) < S ∨ shedSum xs (setIdx s) = S ∧ (setIdx s).length < x.length))) := fun s hs => by have := HBEST.out s hs; rw [hS] at this; exact this
    obtain ⟨hs1, hs2, hs3⟩ := hsum
    clear hS HBEST
    have hd1 : decide (L ≤ S) = true := decide_eq_true hs1
    have hd2 : decide (S ≤ U) = true := decide_eq_true hxy
    have hpw := pow_bd8 h8
    generalize hNN : 2 ^ xs.length = NN at hpw HBEST2
    have hNI : (2 : Int) ^ xs.length = (NN : Int) := by rw [← hNN]; push_cast; rfl
    obtain ⟨hp1, hp2⟩ := hpw
    have HNN := Lib.hid hNN; clear hNN
    have HAS := Lib.hid (fun W (h : Reads 1 intC W W.heap.size A2 x) => ascend_any A2 x.length c2 x W rfl h hx8 HASC.out)
    have hxi8 : (xs.length : Int) ≤ 8 := by omega
    go_wp2_with fail
    go_loopw [12] (fun u wr => ∃ s : Nat, u = .int .i64 s ∧ s ≤ NN ∧ Hid (Below w6.heap.size w6 wr)) (fun u _ => NN - (intOf u).toNat)
    case atStart => exact ⟨0, rfl, Nat.zero_le _, Below.refl _ _⟩
    case round =>
      obtain ⟨s, rfl, hs, HBo⟩ := hrel
      have HD_o := Lib.hid (HD_w6.out.below HBo.out)
      have HX_o := Lib.hid (HX_w6.out.below HBo.out)
      have HY_o := Lib.hid (HY_w6.out.below HBo.out)
      generalize wr = wo at *
      by_cases hlt : s < NN
      · have hlt' : s < 2 ^ xs.length := by rw [HNN.out]; exact hlt
        have hs256 : s < 256 := by omega
        have HO : Hid (Own 1 intC 3 (wo.alloc (.cells #[] 3)) wo.heap.size (.slice (some ⟨wo.heap.size, 0, none⟩) 0 0) []) := by
          unfold Hid
          exact Own.lit (k := 1) (c := intC) (B := wo.heap.size) wo 3 #[] 0 [] (Nat.le_refl _) rfl (by omega) rfl
        have HB0 : Hid (Below wo.heap.size wo (wo.alloc (.cells #[] 3))) := by unfold Hid; (repeat' (first | (with_reducible exact Below.refl _ _) | (with_reducible refine Below.alloc ?_ ?_ _) | (with_reducible refine Below.setCell ?_ ?_ _) | (with_reducible refine Below.drew ?_) | (refine Below.trans ?_ (Below.mono (by with_reducible assumption) ?_)) | go_size))
        have HPF := Lib.hid (preI_full h8 hlt')
        have hbest := HBEST2.out s hlt
        obtain ⟨T, hT⟩ : ∃ T, shedSum xs (setIdx s) = T := ⟨_, rfl⟩
        rw [hT] at hbest
        have HTT := Lib.hid hT; clear hT
        obtain ⟨p, hp⟩ : ∃ p, (setIdx s).length = p := ⟨_, rfl⟩
        rw [hp] at hbest
        have HPP := Lib.hid hp; clear hp
        have HBT := Lib.hid hbest; clear hbest
        go_wp2_with fail
        go_loopw [13, 14] (fun t u wr => ∃ i : Nat, u = .int .i64 i ∧ i ≤ xs.length ∧ Hid (Own 1 intC 3 wr wo.heap.size t (preI s i)) ∧ Hid (Below wo.heap.size wo wr)) (fun _ u _ => xs.length - (intOf u).toNat)
        case atStart => exact ⟨0, rfl, Nat.zero_le _, HO, HB0⟩
        case round =>
          obtain ⟨i, rfl, hi, HV, HBr⟩ := hrel
          clear HO HB0
          have hzw := HBr.out.size
          obtain ⟨vA, vc, hvv⟩ := HV.out.slice
          have hpl := preI_len s i
          have HPL := Lib.hid hpl; clear hpl
          generalize hll : (preI s i).length = ll at hvv
          have HLL := Lib.hid hll; clear hll
          subst hvv
          by_cases hit : i < xs.length
          · have hi1 : (i : Int) < (xs.length : Int) := by omega
            have hi8 : i ≤ 8 := by omega
            have hxl : (preI s i).length ≤ 8 := by have := HPL.out; omega
            have hq0 : (0 : Int) ≤ (s : Int) / 2 ^ i := Int.ediv_nonneg (by omega) (Int.pow_nonneg (by omega))
            have hm1 : ((s : Int) / 2 ^ i).tmod 2 = (s : Int) / 2 ^ i % 2 := Int.tmod_eq_emod_of_nonneg hq0
            have hqe : (s : Int) / 2 ^ i % 2 = ((s / 2 ^ i % 2 : Nat) : Int) := by push_cast; rfl
            clear hq0
            by_cases hb : bitN s i = true
            · have hb1 : ((s : Int) / 2 ^ i % 2 == 1) = true := by rw [hqe]; unfold bitN at hb; simp at hb; simp [hb]
              clear hqe
              have HV1 : Hid (preI s (i + 1) = preI s i ++ [(i : Int)]) := by unfold Hid; rw [preI_succ, if_pos hb]
              clear hb
              have HL_7 := Lib.hid (Own.lit (k := 1) (c := intC) (B := wo.heap.size) wr 3 #[.int .i64 i] 1 [(i : Int)] (by first | exact Nat.le_refl _ | omega) rfl (by omega) rfl); have HQ_7 := Lib.hid (HL_7.out.reads rfl).1; have HV_7 := Lib.hid (Own.alloc (HV.out) (.cells #[.int .i64 i] 3)); have HK_7 := Lib.hid (Own.blk (HV.out)); go_wp2_with (first | (at_builtin; refine wpList_app_g (k := 1) (c := intC) _ (by rfl) _ _ _ rfl 3 (.int .i64 0) 8 Tryd.underlying26 (by kernel_rfl) rfl (by decide) (by decide) intC_one _ _ _ rfl HV_7.out _ _ _ _ rfl HQ_7.out ?hm ?hlen ?hB ?_; (case hm => (first | rfl | (simp; done) | omega)); (case hlen => (simp only [List.length_cons, List.length_nil]; omega)); (case hB => ((try simp only [World.size_alloc, World.size_drew]); omega)); intro v_7 w_7 hown_7 hg_7 hat_7; have HW_7 : Hid (Below (wo.heap.size) (wr) w_7) := (Below.alloc (Below.refl _ _) (by first | exact Nat.le_refl _ | omega) _).grown hg_7 (by (try simp only [World.size_alloc]); omega) (fun q hq => (HK_7.out q hq).1); have HG_7 := Lib.hid hg_7; have HAT_7 := Lib.hid hat_7; have HO_7 := Lib.hid hown_7; obtain ⟨A_7, c_7, hv_7⟩ := hown_7.slice; simp only [List.length_append, List.length_cons, List.length_nil, Nat.zero_add] at hv_7; subst hv_7; have hz_7 := HG_7.out.size; (try simp only [World.size_alloc] at hz_7); clear hown_7 hg_7 hat_7 HL_7 HQ_7 HV_7))
              refine ⟨⟨i + 1, by go_num, by omega, ?_, HBr.out.trans HW_7.out⟩, by simp [intOf]; omega⟩
              unfold Hid; rw [HV1.out]; exact HO_7.out
            · have hb1 : ((s : Int) / 2 ^ i % 2 == 1) = false := by
                have : ¬ s / 2 ^ i % 2 = 1 := by intro h; apply hb; unfold bitN; simp [h]
                rw [hqe, beq_eq_false_iff_ne]; omega
              clear hqe
              have HV1 : Hid (preI s (i + 1) = preI s i) := by unfold Hid; rw [preI_succ, if_neg hb, List.append_nil]
              clear hb
              go_wp2_with fail
              refine ⟨⟨i + 1, by go_num, by omega, ?_, HBr⟩, by simp [intOf]; omega⟩
              unfold Hid; rw [HV1.out]; exact HV.out
          · obtain rfl : i = xs.length := by omega
            have HV2 : Hid (Own 1 intC 3 wr wo.heap.size (.slice vA ll vc) (setIdx s)) := by unfold Hid; rw [← HPF.out]; exact HV.out
            have hlp : ll = p := by rw [← HLL.out, HPF.out, HPP.out]
            subst hlp
            have HDi := Lib.hid (HD_o.out.below HBr.out)
            have hll8 : ll ≤ 1048576 := by have := HPL.out; have := HLL.out; omega
            go_wp2_with fail
            with_reducible refine (HCS.out wr vA vc ll (setIdx s) (setIdx_I64 s) HPP.out hll8 HDi.out.reads.1 (HV2.out.reads rfl).1).mono ?_
            rintro e w7 ⟨rfl, hb7⟩
            rw [HTT.out]
            have HB7 : Hid (Below w6.heap.size w6 w7) := (HBo.out.trans (HBr.out.mono HBo.out.size)).trans (hb7.mono (Nat.le_trans HBo.out.size HBr.out.size))
            clear hb7
            by_cases h1 : L ≤ T
            · have h2 : ¬ T < S := fun h => HBT.out ⟨h1, .inl h⟩
              by_cases h3 : T = S
              · have h4 : ¬ (ll : Int) < (x.length : Int) := fun h => HBT.out ⟨h1, .inr ⟨h3, by omega⟩⟩
                go_wp2_with fail
                all_goals try (exfalso; omega; done)
                exact ⟨⟨s + 1, by go_num, by omega, HB7⟩, by simp [intOf]; omega⟩
              · have h3' : (T == S) = false := beq_eq_false_iff_ne.2 h3
                go_wp2_with fail
                all_goals try (exfalso; omega; done)
                exact ⟨⟨s + 1, by go_num, by omega, HB7⟩, by simp [intOf]; omega⟩
            · go_wp2_with fail
              all_goals try (exfalso; omega; done)
              exact ⟨⟨s + 1, by go_num, by omega, HB7⟩, by simp [intOf]; omega⟩
      · have HB_wo : Hid (Below w.heap.size w wo) := HB_w6.out.trans (HBo.out.mono HB_w6.out.size)
        have HX_wo := HX_o
        go_wp2_with fail
        all_goals try (exfalso; omega; done)
        with_reducible refine (HCS.out wo A4 c4 y.length y HYI.out rfl hy8 HD_o.out.reads.1 HY_o.out.reads.1).mono ?_
        rintro e w7 ⟨rfl, hb7⟩
        rw [HU.out]
        have HB_w7 : Hid (Below w.heap.size w w7) := HB_wo.out.trans (hb7.mono HB_wo.out.size)
        have HX_w7 := Lib.hid (HX_wo.out.below hb7)
        clear hb7
        go_wp2_with fail
        all_goals try (exfalso; omega; done)
        with_reducible refine (HAS.out w7 HX_w7.out.reads.1).mono ?_
        rintro e w8 ⟨rfl, hb8⟩
        have HB_w8 : Hid (Below w.heap.size w w8) := HB_w7.out.trans (hb8.mono HB_w7.out.size)
        clear hb8
        go_wp2_with fail
        go_ret
        exact ⟨rfl, HB_w8.out⟩
end Go.Proofs.YtecekhjlapaofaaDoor
