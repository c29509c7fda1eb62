/- The law FnDispatch: its walk. -/
import Derived.Test.YtcpopbkcphpdfaaDoorDrP
import Derived.Test.YtcpopbkcphpdfaaDoorLwP
import Derived.Test.YtcpopbkcphpdfaaDoorLwS
import Derived.Test.YtcpopbkcphpdfaaDoorAlive
import Derived.Deep.DeepCutAuto
namespace Go.Proofs.YtcpopbkcphpdfaaDoor
open Go.RowKit Go.Deep
set_option linter.unusedSimpArgs false
set_option linter.unusedVariables false

theorem sumZ_eq : ∀ xs : List Int, sumZ xs = sumI xs
  | [] => rfl
  | x :: xs => by simp only [sumZ, sumI, sumZ_eq xs]
@[simp] theorem swap_len (ys : List Int) (a b : Nat) : (swap ys a b).length = ys.length := by simp [swap]
theorem outs_get {xs : List R4} {ys : List Int} (h : OutsP xs ys) {i : Nat} (hi : i < ys.length) : 0 ≤ ys[i] ∧ ys[i] ≤ 999 := by
  have hx : i < xs.length := by rw [← h.2.1]; exact hi
  have h1 := h.2.2 i hx hi
  have h2 := h.1.2 xs[i] (List.getElem_mem hx); unfold UniOk at h2; omega
theorem outs_mem {xs : List R4} {ys : List Int} (h : OutsP xs ys) : ∀ y ∈ ys, -1000000 ≤ y ∧ y ≤ 1000000 := fun y hy => by
  obtain ⟨i, hi, rfl⟩ := List.mem_iff_getElem.1 hy
  have := outs_get h hi; omega

set_option maxRecDepth 100000 in
set_option maxHeartbeats 8000000 in
theorem fnDispatch_any (A : Option Addr) (n c : Nat) (bs : List Int) (A' : Option Addr) (n' c' : Nat) (bs' : List Int) (w : World) (hn : bs.length = n) (hb : ∀ x ∈ bs, U8 x) (hc : n ≤ c) (hcm : c ≤ maxLen) (hR : Reads 1 byteC w w.heap.size A bs)
    (hn' : bs'.length = n') (hb' : ∀ x ∈ bs', U8 x) (hc' : n' ≤ c') (hcm' : c' ≤ maxLen) (hR' : Reads 1 byteC w w.heap.size A' bs') :
    Calls Tryd.prog 8 #[.slice A n c, .slice A' n' c'] w fun e w' => e = .returned (.bool true) ∧ Below w.heap.size w w' := by
  unfold maxLen at hcm hcm'
  subst hn hn'
  have HR := Lib.hid hR; have HR' := Lib.hid hR'; clear hR hR'
  have HB := Lib.hid hb; have HB' := Lib.hid hb'; clear hb hb'
  have HB_w : Hid (Below w.heap.size w w) := Below.refl _ _
  have hbb : ∀ x : Bool, (x != x) = false := fun x => by simp
  have hnn : ∀ x : Int, (x != x) = false := fun x => by simp
  by_cases hl : ¬ bs.length ≤ 1048576
  · have hl1 : (1048576 : Int) < bs.length := by omega
    go_enter Tryd.func8, Tryd.ntmps8
    go_wp2_with fail
    go_ret
    exact ⟨rfl, Below.refl _ _⟩
  have hl : bs.length ≤ 1048576 := by omega
  have hl1 : ¬ (1048576 : Int) < bs.length := by omega
  by_cases hl' : ¬ bs'.length ≤ 1048576
  · have hl2 : (1048576 : Int) < bs'.length := by omega
    go_enter Tryd.func8, Tryd.ntmps8
    go_wp2_with fail
    go_ret
    exact ⟨rfl, Below.refl _ _⟩
  have hl' : bs'.length ≤ 1048576 := by omega
  have hl2 : ¬ (1048576 : Int) < bs'.length := by omega
  go_enter Tryd.func8, Tryd.ntmps8
  go_wp2_with fail; ((with_reducible refine (drawDispatch_any A c bs w HR.out HB.out hl hc hcm).mono ?_); rintro e w1 ⟨A1, c1, xs, L, rfl, h7, hs, hL0, hL1, hd, hb_w1⟩); have HB_w1 : Hid (Below w.heap.size w w1) := HB_w.out.trans (hb_w1.mono HB_w.out.size); clear hb_w1
  have HD_w1 := Lib.hid hd; clear hd hs
  have hxl : xs.length ≤ 1048576 := by omega
  have hI : I64 L := by unfold I64; omega
  go_wp2_with fail; ((with_reducible refine (implDispatch_any A1 c1 xs L hI w1 HD_w1.out.reads.1 hxl).mono ?_); rintro e w2 ⟨v2, rfl, hr2, hb_w2⟩); have HB_w2 : Hid (Below w.heap.size w w2) := HB_w1.out.trans (hb_w2.mono HB_w1.out.size); have HD_w2 := Lib.hid (HD_w1.out.below hb_w2); clear hb_w2
  have HE_w2 := Lib.hid hr2
  obtain ⟨A2, c2, rfl, _⟩ := hr2
  go_wp2_with fail; ((with_reducible refine (specDispatch_any A1 c1 xs L hI w2 HD_w2.out.reads.1 hxl).mono ?_); rintro e w3 ⟨v3, rfl, hr3, hb_w3⟩); have HB_w3 : Hid (Below w.heap.size w w3) := HB_w2.out.trans (hb_w3.mono HB_w2.out.size); have HD_w3 := Lib.hid (HD_w2.out.below hb_w3); have HE_w3 := Lib.hid (HE_w2.out.below hb_w3); clear hb_w3
  have HF_w3 := Lib.hid hr3
  obtain ⟨A3, c3, rfl, _⟩ := hr3
  have hyl := dispO_len xs L
  generalize hys : (dispO xs L).getD [] = ys at HE_w3 HF_w3 hyl ⊢
  generalize hok : (dispO xs L).isSome = ok
  have HYS := Lib.hid (And.intro hys hok); clear hys hok
  have hyl' : ys.length ≤ 1048576 := by omega
  go_wp2_with fail; ((with_reducible refine (sameInts_any A2 A3 c2 c3 ys w3 HE_w3.out.reads.1 HF_w3.out.reads.1 hyl').mono ?_); rintro e w4 ⟨rfl, hb_w4⟩); have HB_w4 : Hid (Below w.heap.size w w4) := HB_w3.out.trans (hb_w4.mono HB_w3.out.size); have HD_w4 := Lib.hid (HD_w3.out.below hb_w4); have HE_w4 := Lib.hid (HE_w3.out.below hb_w4); clear hb_w4
  cases hd : dispO xs L with
  | none =>
    have hyy := HYS.out
    rw [hd] at hyy
    obtain ⟨hy1, hy2⟩ := hyy
    have hy1 : ys = [] := hy1.symm
    have hy2 : ok = false := hy2.symm
    subst hy1 hy2
    clear hd
    go_wp2_with fail; ((with_reducible refine (alive_any w4).mono ?_); rintro e w5 ⟨rfl, hb_w5⟩); have HB_w5 : Hid (Below w.heap.size w w5) := HB_w4.out.trans (hb_w5.mono HB_w4.out.size); clear hb_w5
    go_wp2_with fail
    go_ret
    exact ⟨rfl, HB_w5.out⟩
  | some zs =>
    have hyy := HYS.out
    rw [hd] at hyy
    obtain ⟨hy1, hy2⟩ := hyy
    have hy1 : zs = ys := hy1
    have hy2 : ok = true := hy2.symm
    subst hy1 hy2
    have hO := (dispO_outs hd).1
    have HYX := Lib.hid hO.2.1
    have HSW : Hid (∀ a b, a < zs.length → b < zs.length → outsB xs (swap zs a b) = true → outCost xs zs ≤ outCost xs (swap zs a b)) := fun a b h1 h2 h3 => swap_cost hd (by rw [← HYX.out]; exact h1) (by rw [← HYX.out]; exact h2) h3
    have HSUM := Lib.hid (dispO_outs hd).2
    have hcc := hO.cost
    rw [← outCost_ok hO] at hcc
    have HO := Lib.hid hO
    clear hO hd
    go_wp2_with fail; ((with_reducible refine (implOutputCost_any A1 A2 c1 c2 xs zs w4 HD_w4.out.reads.1 HE_w4.out.reads.1 hxl hyl').mono ?_); rintro e w5 ⟨rfl, hb_w5⟩); have HB_w5 : Hid (Below w.heap.size w w5) := HB_w4.out.trans (hb_w5.mono HB_w4.out.size); have HD_w5 := Lib.hid (HD_w4.out.below hb_w5); have HE_w5 := Lib.hid (HE_w4.out.below hb_w5); clear hb_w5
    have HBD : Hid (∀ ys, -1 ≤ outCost xs ys) := fun ys => by have := outCost_cases xs ys; omega
    generalize outCost xs zs = K at hcc HSW ⊢
    obtain ⟨hK0, hK1⟩ := hcc
    go_wp2_with fail
    go_loopw [12] (fun k wr => ∃ (a : Nat), k = .int .i64 a ∧ a ≤ zs.length ∧ Hid (Below w.heap.size w wr) ∧ Hid (DrS 4 r4C wr w.heap.size (.slice A1 xs.length c1) xs) ∧ Hid (Res 1 intC 3 wr w1.heap.size (.slice A2 zs.length c2) zs)) (fun k _ => zs.length - (intOf k).toNat)
    case atStart => exact ⟨0, rfl, Nat.zero_le _, HB_w5, HD_w5, HE_w5⟩
    case round =>
      obtain ⟨a, rfl, ha, HB_wo, HD_wo, HE_wo⟩ := hrel
      by_cases hlt : a < zs.length
      · go_wp2_with fail
        go_loopw [13] (fun k wr => ∃ (b : Nat), k = .int .i64 b ∧ b ≤ zs.length ∧ Hid (Below w.heap.size w wr) ∧ Hid (DrS 4 r4C wr w.heap.size (.slice A1 xs.length c1) xs) ∧ Hid (Res 1 intC 3 wr w1.heap.size (.slice A2 zs.length c2) zs)) (fun k _ => zs.length - (intOf k).toNat)
        case atStart => exact ⟨0, rfl, Nat.zero_le _, HB_wo, HD_wo, HE_wo⟩
        case round =>
          obtain ⟨b, rfl, hb, HB_wr, HD_wr, HE_wr⟩ := hrel
          clear HB_wo HD_wo HE_wo
          by_cases hltb : b < zs.length
          · have HA_4 := Lib.hid (Own.lit (k := 1) (c := intC) (B := wr.heap.size) wr 3 #[] 0 [] (Nat.le_refl _) rfl (by omega) rfl); have HQ_4 := Lib.hid (Reads.more (Reads.below (HE_wr.out.reads.1) (Below.alloc (Below.refl wr.heap.size wr) (Nat.le_refl _) (.cells #[] 3)) (Nat.le_refl _)) (show wr.heap.size ≤ (wr.alloc (.cells #[] 3)).heap.size by simp)); go_upto_region 18 with (first | (at_builtin; refine wpList_app_g (k := 1) (c := intC) _ (by rfl) _ _ _ rfl 3 (.int .i64 0) 8 Tryd.underlying30 (by kernel_rfl) rfl (by decide) (by decide) intC_one _ _ _ rfl HA_4.out _ _ _ _ rfl HQ_4.out ?hm ?hlen ?hB ?_; (case hm => (first | rfl | (simp; done) | omega)); (case hlen => (simp only [List.length_nil]; omega)); (case hB => simp); intro v_4 w_4 hown_4 hg_4 hat_4; have HW_4 : Hid (Below wr.heap.size wr w_4) := (Below.alloc (Below.refl _ _) (Nat.le_refl _) _).grown hg_4 (by simp) (fun q hq => by injection hq with hq; subst hq; exact Nat.le_refl _); simp only [List.nil_append] at hown_4; have HO_4 := Lib.hid hown_4; obtain ⟨A_4, c_4, hv_4⟩ := hown_4.slice; subst hv_4; have hz_4 := HW_4.out.size; clear hown_4 hg_4 hat_4 HA_4 HQ_4))
            obtain ⟨gx, rfl, hgx, hgz, kx, kf⟩ := HO_4.out.at1 hlt
            have kx' : w_4.cell? ⟨gx, a, none⟩ = some (.int .i64 zs[a]) := kx
            have hya := outs_get HO.out hlt
            have HX4 := Lib.hid (HO_4.out.set1 hlt (zs[a] - 1))
            have HWX : Hid (Below wr.heap.size wr (w_4.setCell ⟨gx, a, none⟩ (.int .i64 (zs[a] - 1)))) := HW_4.out.setCell (p := ⟨gx, a, none⟩) hgx _
            have hy1b : b < (zs.set a (zs[a] - 1)).length := by rw [List.length_set]; exact hltb
            have hy1v : -1 ≤ (zs.set a (zs[a] - 1))[b] ∧ (zs.set a (zs[a] - 1))[b] ≤ 999 := by
              rw [List.getElem_set]
              split
              · omega
              · have := outs_get HO.out hltb; omega
            have hsw : swap zs a b = (zs.set a (zs[a] - 1)).set b ((zs.set a (zs[a] - 1))[b] + 1) := by
              unfold swap; rw [gI_get hlt, gI_get hy1b]
            have HSWE := Lib.hid hsw
            have hai : (a : Int) < (zs.length : Int) := by omega
            have ha0 : (0 : Int) ≤ (a : Int) := by omega
            have hbi : (b : Int) < (zs.length : Int) := by omega
            have hb0 : (0 : Int) ≤ (b : Int) := by omega
            have hkf := kf a
            clear hsw kx kf
            generalize hY1 : zs.set a (zs[a] - 1) = y1 at hy1b hy1v HSWE HX4
            have hY1l : y1.length = zs.length := by rw [← hY1, List.length_set]
            have HY1L := Lib.hid hY1l
            clear hY1 hY1l
            generalize zs[a] = za at kx' hya HX4 HWX
            obtain ⟨hya0, hya1⟩ := hya
            go_upto_region 19 with fail
            have HX4 : Hid (Own 1 intC 3 (w_4.setCell ⟨gx, a, none⟩ (.int .i64 (za - 1))) wr.heap.size (.slice (some ⟨gx, 0, none⟩) zs.length c_4) y1) := HX4
            have hgz1 : gx < (w_4.setCell ⟨gx, a, none⟩ (.int .i64 (za - 1))).heap.size := by simpa using hgz
            generalize hW1 : w_4.setCell ⟨gx, a, none⟩ (.int .i64 (za - 1)) = W1 at HWX HX4 hgz1 ⊢
            clear hW1 kx' hkf HO_4 HW_4 hz_4 hgz
            obtain ⟨gx', e', _, _, kb, kf⟩ := HX4.out.at1 hy1b
            injection e' with e'; injection e' with e1
            subst e1
            have kb' : W1.cell? ⟨gx, b, none⟩ = some (.int .i64 y1[b]) := kb
            have hkf := kf b
            have HX5 := Lib.hid (HX4.out.set1 hy1b (y1[b] + 1))
            have HWX5 : Hid (Below wr.heap.size wr (W1.setCell ⟨gx, b, none⟩ (.int .i64 (y1[b] + 1)))) := HWX.out.setCell (p := ⟨gx, b, none⟩) hgx _
            clear kb kf HX4
            have hsl : (y1.set b (y1[b] + 1)).length = zs.length := by rw [List.length_set, HY1L.out]
            rw [← HSWE.out] at HX5 hsl
            have HSL := Lib.hid hsl; clear hsl HSWE
            generalize y1[b] = yb at kb' hy1v HX5 HWX5
            obtain ⟨hyb0, hyb1⟩ := hy1v
            go_upto_region 20 with fail
            have HX5 : Hid (Own 1 intC 3 (W1.setCell ⟨gx, b, none⟩ (.int .i64 (yb + 1))) wr.heap.size (.slice (some ⟨gx, 0, none⟩) zs.length c_4) (swap zs a b)) := HX5
            generalize hW2 : W1.setCell ⟨gx, b, none⟩ (.int .i64 (yb + 1)) = W2 at HWX5 HX5 ⊢
            clear hW2 kb' hkf HWX hgz1
            have HSWX := Lib.hid (HSW.out a b hlt hltb)
            have hcall := fun W h1 h2 => implOutputsValid_any A1 (some ⟨gx, 0, none⟩) c1 c_4 xs (swap zs a b) W h1 h2 hxl (by rw [HSL.out]; exact hyl')
            rw [HSL.out] at hcall
            have hcall2 := fun W h1 h2 => implOutputCost_any A1 (some ⟨gx, 0, none⟩) c1 c_4 xs (swap zs a b) W h1 h2 hxl (by rw [HSL.out]; exact hyl')
            rw [HSL.out] at hcall2
            have HCL := Lib.hid hcall; have HCL2 := Lib.hid hcall2; clear hcall hcall2
            have HBS := Lib.hid (HBD.out (swap zs a b))
            have HB_W2 : Hid (Below w.heap.size w W2) := HB_wr.out.trans (HWX5.out.mono HB_wr.out.size)
            have HD_W2 := Lib.hid (HD_wr.out.below HWX5.out)
            have HE_W2 := Lib.hid (HE_wr.out.below HWX5.out)
            have HX_W2 := Lib.hid HX5.out.drs
            cases ho : outsB xs (swap zs a b) with
            | false =>
              rw [ho] at HCL
              clear ho
              go_wp2_with fail; ((with_reducible refine (HCL.out W2 HD_W2.out.reads.1 HX_W2.out.reads.1).mono ?_); rintro e w6 ⟨rfl, hb_w6⟩); have HB_w6 : Hid (Below w.heap.size w w6) := HB_W2.out.trans (hb_w6.mono HB_W2.out.size); have HD_w6 := Lib.hid (HD_W2.out.below hb_w6); have HE_w6 := Lib.hid (HE_W2.out.below hb_w6); clear hb_w6
              go_wp2_with fail
              exact ⟨⟨b + 1, by go_num, by omega, HB_w6, HD_w6, HE_w6⟩, by simp [intOf]; omega⟩
            | true =>
              have hle := HSWX.out ho
              rw [ho] at HCL
              clear ho
              generalize outCost xs (swap zs a b) = K2 at hle HCL2
              have hle' : ¬ K2 < K := by omega
              go_wp2_with fail; ((with_reducible refine (HCL.out W2 HD_W2.out.reads.1 HX_W2.out.reads.1).mono ?_); rintro e w6 ⟨rfl, hb_w6⟩); have HB_w6 : Hid (Below w.heap.size w w6) := HB_W2.out.trans (hb_w6.mono HB_W2.out.size); have HD_w6 := Lib.hid (HD_W2.out.below hb_w6); have HE_w6 := Lib.hid (HE_W2.out.below hb_w6); have HX_w6 := Lib.hid (HX_W2.out.below hb_w6); clear hb_w6
              go_wp2_with fail; ((with_reducible refine (HCL2.out w6 HD_w6.out.reads.1 HX_w6.out.reads.1).mono ?_); rintro e w7 ⟨rfl, hb_w7⟩); have HB_w7 : Hid (Below w.heap.size w w7) := HB_w6.out.trans (hb_w7.mono HB_w6.out.size); have HD_w7 := Lib.hid (HD_w6.out.below hb_w7); have HE_w7 := Lib.hid (HE_w6.out.below hb_w7); clear hb_w7
              go_wp2_with fail
              exact ⟨⟨b + 1, by go_num, by omega, HB_w7, HD_w7, HE_w7⟩, by simp [intOf]; omega⟩
          · go_wp2_with fail
            exact ⟨⟨a + 1, by go_num, by omega, HB_wr, HD_wr, HE_wr⟩, by simp [intOf]; omega⟩
      · go_wp2_with fail; ((with_reducible refine (drawOutputCost_any A' c' bs' wr ((HR'.out.below HB_wo.out (Nat.le_refl _)).more HB_wo.out.size) HB'.out hl' hc' hcm').mono ?_); rintro e w6 ⟨A6, A7, c6, c7, us, ss, rfl, h76, hs6, h77, hs7, hd6, hd7, hb_w6⟩); have HB_w6 : Hid (Below w.heap.size w w6) := HB_wo.out.trans (hb_w6.mono HB_wo.out.size); have HE_w6 := Lib.hid (HE_wo.out.below hb_w6); clear hb_w6
        have HD_w6 := Lib.hid hd6; have HF_w6 := Lib.hid hd7; clear hd6 hd7 hs6 hs7
        have hul : us.length ≤ 1048576 := by omega
        have hsl : ss.length ≤ 1048576 := by omega
        have hsu := sumOf_any A2 c2 zs
        have HZS : Hid (∀ W, Reads 1 intC W W.heap.size A2 zs → Calls Tryd.prog 36 #[.slice A2 zs.length c2] W fun e w' => e = .returned (.int .i64 L) ∧ Below W.heap.size W w') := fun W h => by
          have := sumOf_any A2 c2 zs W h (by omega) (outs_mem HO.out)
          rw [sumZ_eq, HSUM.out] at this; exact this
        clear hsu
        go_wp2_with fail; ((with_reducible refine (specOutputsValid_any A6 A7 c6 c7 us ss w6 HD_w6.out.reads.1 HF_w6.out.reads.1 hul hsl).mono ?_); rintro e w7 ⟨rfl, hb_w7⟩); have HB_w7 : Hid (Below w.heap.size w w7) := HB_w6.out.trans (hb_w7.mono HB_w6.out.size); have HD_w7 := Lib.hid (HD_w6.out.below hb_w7); have HE_w7 := Lib.hid (HE_w6.out.below hb_w7); have HF_w7 := Lib.hid (HF_w6.out.below hb_w7); clear hb_w7
        cases ho : outsB us ss with
        | false =>
          clear ho
          go_wp2_with fail; ((with_reducible refine (HZS.out w7 HE_w7.out.reads.1).mono ?_); rintro e w8 ⟨rfl, hb_w8⟩); have HB_w8 : Hid (Below w.heap.size w w8) := HB_w7.out.trans (hb_w8.mono HB_w7.out.size); clear hb_w8
          have hLL : (L == L) = true := by simp
          go_wp2_with fail
          go_ret
          exact ⟨rfl, HB_w8.out⟩
        | true =>
          have hO2 := outsB_t.1 ho
          clear ho
          obtain ⟨qs, hq1, hq2⟩ := any_cost hO2
          have hsq := dispO_some hq1
          have hsm := hsq.1.sums
          have hI2 : I64 (sumI ss) := by unfold I64; omega
          have hql := (dispO_outs hq1).1.2.1
          have HSS : Hid (∀ W, Reads 1 intC W W.heap.size A7 ss → Calls Tryd.prog 36 #[.slice A7 ss.length c7] W fun e w' => e = .returned (.int .i64 (sumI ss)) ∧ Below W.heap.size W w') := fun W h => by
            have := sumOf_any A7 c7 ss W h (by omega) (outs_mem hO2)
            rw [sumZ_eq] at this; exact this
          have HDI : Hid (∀ W, Reads 4 r4C W W.heap.size A6 us → Calls Tryd.prog 32 #[.slice A6 us.length c6, .int .i64 (sumI ss)] W (RetP 1 intC 3 W qs true)) := fun W h => by
            have := implDispatch_any A6 c6 us (sumI ss) hI2 W h hul
            rw [hq1] at this; exact this
          have hqll : qs.length ≤ 1048576 := by omega
          have HQB : Hid (-1 ≤ outCost us qs ∧ -1 ≤ outCost us ss) := ⟨by have := outCost_cases us qs; omega, by have := outCost_cases us ss; omega⟩
          clear hsq hsm hq1 hql hO2
          generalize sumI ss = M at HSS HDI hI2
          go_wp2_with fail; ((with_reducible refine (HSS.out w7 HF_w7.out.reads.1).mono ?_); rintro e w8 ⟨rfl, hb_w8⟩); have HB_w8 : Hid (Below w.heap.size w w8) := HB_w7.out.trans (hb_w8.mono HB_w7.out.size); have HD_w8 := Lib.hid (HD_w7.out.below hb_w8); have HE_w8 := Lib.hid (HE_w7.out.below hb_w8); have HF_w8 := Lib.hid (HF_w7.out.below hb_w8); clear hb_w8
          go_wp2_with fail; ((with_reducible refine (HDI.out w8 HD_w8.out.reads.1).mono ?_); rintro e w9 ⟨v9, rfl, hr9, hb_w9⟩); have HB_w9 : Hid (Below w.heap.size w w9) := HB_w8.out.trans (hb_w9.mono HB_w8.out.size); have HD_w9 := Lib.hid (HD_w8.out.below hb_w9); have HE_w9 := Lib.hid (HE_w8.out.below hb_w9); have HF_w9 := Lib.hid (HF_w8.out.below hb_w9); clear hb_w9
          have HG_w9 := Lib.hid hr9
          obtain ⟨A9, c9, rfl, _⟩ := hr9
          go_wp2_with fail; ((with_reducible refine (implOutputCost_any A6 A9 c6 c9 us qs w9 HD_w9.out.reads.1 HG_w9.out.reads.1 hul hqll).mono ?_); rintro e w10 ⟨rfl, hb_w10⟩); have HB_w10 : Hid (Below w.heap.size w w10) := HB_w9.out.trans (hb_w10.mono HB_w9.out.size); have HD_w10 := Lib.hid (HD_w9.out.below hb_w10); have HE_w10 := Lib.hid (HE_w9.out.below hb_w10); have HF_w10 := Lib.hid (HF_w9.out.below hb_w10); clear hb_w10
          go_wp2_with fail; ((with_reducible refine (implOutputCost_any A6 A7 c6 c7 us ss w10 HD_w10.out.reads.1 HF_w10.out.reads.1 hul hsl).mono ?_); rintro e w11 ⟨rfl, hb_w11⟩); have HB_w11 : Hid (Below w.heap.size w w11) := HB_w10.out.trans (hb_w11.mono HB_w10.out.size); have HE_w11 := Lib.hid (HE_w10.out.below hb_w11); clear hb_w11
          generalize outCost us qs = o1 at hq2 ⊢
          generalize outCost us ss = o2 at hq2 ⊢
          have hq2' : ¬ o2 < o1 := by omega
          go_wp2_with fail; ((with_reducible refine (HZS.out w11 HE_w11.out.reads.1).mono ?_); rintro e w12 ⟨rfl, hb_w12⟩); have HB_w12 : Hid (Below w.heap.size w w12) := HB_w11.out.trans (hb_w12.mono HB_w11.out.size); clear hb_w12
          have hLL : (L == L) = true := by simp
          go_wp2_with fail
          go_ret
          exact ⟨rfl, HB_w12.out⟩
end Go.Proofs.YtcpopbkcphpdfaaDoor
