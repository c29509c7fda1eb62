/- The law FnCommitCost: its walk. -/
import Derived.Test.YtcpopbkcphpdfaaDoorDrR
import Derived.Test.YtcpopbkcphpdfaaDoorLwQ
import Derived.Test.YtcpopbkcphpdfaaDoorAlive
namespace Go.Proofs.YtcpopbkcphpdfaaDoor
open Go.RowKit Go.Deep
set_option linter.unusedSimpArgs false
set_option linter.unusedVariables false

def runT (xs : List R4) (on : List Bool) (i : Nat) : List R4 := runL (xs.take i) (on.take i)
theorem runT_bd {xs : List R4} {on : List Bool} (hu : UnisP xs) (i : Nat) : (0 ≤ sumI (fixeds (runT xs on i)) ∧ sumI (fixeds (runT xs on i)) ≤ 5994) ∧ (0 ≤ sumA (runT xs on i) ∧ sumA (runT xs on i) ≤ 5994) ∧ (0 ≤ sumB (runT xs on i) ∧ sumB (runT xs on i) ≤ 5994) := by
  have h1 : UnisP (xs.take i) := ⟨by rw [List.length_take]; have := hu.1; omega, fun x hx => hu.2 x (List.mem_of_mem_take hx)⟩
  have h2 : UnisP (runT xs on i) := runL_unis h1
  have h3 := h2.sums
  have h4 := sumI_le_takeF h2 (runT xs on i).length
  rw [List.take_of_length_le (by simp)] at h4
  omega
theorem runT_t {xs : List R4} {on : List Bool} {i : Nat} (h1 : i < xs.length) (h2 : i < on.length) (h : on[i] = true) : sumI (fixeds (runT xs on (i + 1))) = sumI (fixeds (runT xs on i)) + xs[i].d ∧ sumA (runT xs on (i + 1)) = sumA (runT xs on i) + xs[i].a ∧ sumB (runT xs on (i + 1)) = sumB (runT xs on i) + xs[i].b := by
  unfold runT
  rw [runL_snoc h1 h2, h, if_pos rfl]
  unfold fixeds sumA sumB leasts mosts
  simp only [List.map_append, List.map_cons, List.map_nil, sumI_append, sumI]
  omega
theorem runT_f {xs : List R4} {on : List Bool} {i : Nat} (h1 : i < xs.length) (h2 : i < on.length) (h : on[i] = false) : runT xs on (i + 1) = runT xs on i := by
  unfold runT
  rw [runL_snoc h1 h2, h]; simp
theorem runT_all {xs : List R4} {on : List Bool} (h : on.length = xs.length) : runT xs on xs.length = runL xs on := by
  unfold runT
  rw [List.take_of_length_le (Nat.le_refl _), List.take_of_length_le (by omega)]
def partF (xs : List R4) (i : Nat) : List R4 := freeU (xs.take i) ++ xs.drop i
theorem partF_len (xs : List R4) (i : Nat) (h : i ≤ xs.length) : (partF xs i).length = xs.length := by unfold partF; simp; omega
theorem partF_at {xs : List R4} {i : Nat} (h : i < xs.length) (h' : i < (partF xs i).length) : (partF xs i)[i] = xs[i] := by
  have e : (partF xs i)[i]? = some xs[i] := by
    unfold partF
    rw [List.getElem?_append_right (by simp; omega)]
    rw [show i - (freeU (xs.take i)).length = 0 from by simp; omega, List.drop_eq_getElem_cons h]; rfl
  exact (List.getElem?_eq_some_iff.1 e).2
theorem partF_set {xs : List R4} {i : Nat} (h : i < xs.length) : (partF xs i).set i (free1 xs[i]) = partF xs (i + 1) := by
  have e : freeU (xs.take (i + 1)) = freeU (xs.take i) ++ [free1 xs[i]] := by unfold freeU; rw [List.take_succ_eq_append_getElem h, List.map_append]; rfl
  unfold partF
  rw [List.set_append_right _ _ (by simp; omega), show i - (freeU (xs.take i)).length = 0 from by simp; omega, e, List.drop_eq_getElem_cons h, List.set_cons_zero, List.append_assoc]; rfl
theorem partF_zero (xs : List R4) : partF xs 0 = xs := by simp [partF, freeU]
theorem partF_all (xs : List R4) : partF xs xs.length = freeU xs := by simp [partF]

set_option maxRecDepth 100000 in
set_option maxHeartbeats 8000000 in
theorem fnCommitCost_any (A : Option Addr) (n c : Nat) (bs : List Int) (w : World) (hn : bs.length = n) (hb : ∀ x ∈ bs, U8 x) (hc : n ≤ c) (hcm : c ≤ maxLen) (hR : Reads 1 byteC w w.heap.size A bs) :
    Calls Tryd.prog 10 #[.slice A n c] w fun e w' => e = .returned (.bool true) ∧ Below w.heap.size w w' := by
  unfold maxLen at hcm
  subst hn
  have HR := Lib.hid hR; clear hR
  have HB := Lib.hid hb; clear hb
  have HB_w : Hid (Below w.heap.size w w) := Below.refl _ _
  have hbb : ∀ x : Bool, (x != x) = false := fun x => by simp
  have hnn : ∀ x : Int, (x != x) = false := fun x => by simp
  by_cases hl : ¬ bs.length ≤ 1048576
  · have hl' : (1048576 : Int) < bs.length := by omega
    go_enter Tryd.func10, Tryd.ntmps10
    go_wp2_with fail
    go_ret
    exact ⟨rfl, Below.refl _ _⟩
  have hl : bs.length ≤ 1048576 := by omega
  have hl' : ¬ (1048576 : Int) < bs.length := by omega
  go_enter Tryd.func10, Tryd.ntmps10
  go_wp2_with fail; ((with_reducible refine (drawCommitCost_any A c bs w HR.out HB.out hl hc hcm).mono ?_); rintro e w1 ⟨A1, A2, c1, c2, xs, on, L, rfl, h7, hs, h8, hL0, hL1, hd, hd2, hb_w1⟩); have HB_w1 : Hid (Below w.heap.size w w1) := HB_w.out.trans (hb_w1.mono HB_w.out.size); clear hb_w1
  have HD_w1 := Lib.hid hd; have HE_w1 := Lib.hid hd2; clear hd hd2 hs
  have hxl : xs.length ≤ 1048576 := by omega
  have hol : on.length ≤ 1048576 := by omega
  have hI : I64 L := by unfold I64; omega
  go_wp2_with fail; ((with_reducible refine (implCommitCost_any A1 A2 c1 c2 xs on L hI w1 HD_w1.out.reads.1 HE_w1.out.reads.1 hxl hol).mono ?_); rintro e w2 ⟨rfl, hb_w2⟩); have HB_w2 : Hid (Below w.heap.size w w2) := HB_w1.out.trans (hb_w2.mono HB_w1.out.size); have HD_w2 := Lib.hid (HD_w1.out.below hb_w2); have HE_w2 := Lib.hid (HE_w1.out.below hb_w2); clear hb_w2
  go_wp2_with fail; ((with_reducible refine (specCommitCost_any A1 A2 c1 c2 xs on L hI w2 HD_w2.out.reads.1 HE_w2.out.reads.1 hxl hol).mono ?_); rintro e w3 ⟨rfl, hb_w3⟩); have HB_w3 : Hid (Below w.heap.size w w3) := HB_w2.out.trans (hb_w3.mono HB_w2.out.size); have HD_w3 := Lib.hid (HD_w2.out.below hb_w3); have HE_w3 := Lib.hid (HE_w2.out.below hb_w3); clear hb_w3
  rcases comC_cases xs on L with hx | ⟨hu, hm, _, _, h0, h6⟩
  · rw [hx]
    clear hx
    go_wp2_with fail; ((with_reducible refine (alive_any w3).mono ?_); rintro e w4 ⟨rfl, hb_w4⟩); have HB_w4 : Hid (Below w.heap.size w w4) := HB_w3.out.trans (hb_w4.mono HB_w3.out.size); clear hb_w4
    go_wp2_with fail
    go_ret
    exact ⟨rfl, HB_w4.out⟩
  · have HLW := Lib.hid (com_law h0)
    have HBD := Lib.hid (fun i => runT_bd (on := on) hu i)
    generalize hxx : comC xs on L = x at h0 h6 ⊢
    have HXX := Lib.hid hxx; have HM := Lib.hid hm; have HU := Lib.hid hu; clear hxx hm hu
    have hx0 : ¬ x < 0 := by omega
    have HA_4 := Lib.hid (Own.lit (k := 4) (c := r4C) (B := w3.heap.size) w3 27 #[] 0 [] (Nat.le_refl _) rfl (by omega) rfl); have HQ_4 := Lib.hid (Reads.more (Reads.below (HD_w3.out.reads.1) (Below.alloc (Below.refl w3.heap.size w3) (Nat.le_refl _) (.cells #[] 27)) (Nat.le_refl _)) (show w3.heap.size ≤ (w3.alloc (.cells #[] 27)).heap.size by simp)); go_wp2_with (first | (at_builtin; refine wpList_app_g (k := 4) (c := r4C) _ (by rfl) _ _ _ rfl 27 (.agg (Array.replicate 4 (.int .i64 0))) 32 Tryd.underlying23 (by kernel_rfl) rfl (by decide) (by decide) r4C_one _ _ _ rfl HA_4.out _ _ _ _ rfl HQ_4.out ?hm ?hlen ?hB ?_; (case hm => (first | rfl | (simp; done) | omega)); (case hlen => (simp only [List.length_nil]; omega)); (case hB => simp); intro v_4 w_4 hown_4 hg_4 hat_4; have HW_4 : Hid (Below w3.heap.size w3 w_4) := (Below.alloc (Below.refl _ _) (Nat.le_refl _) _).grown hg_4 (by simp) (fun q hq => by injection hq with hq; subst hq; exact Nat.le_refl _); simp only [List.nil_append] at hown_4; have HO_4 := Lib.hid hown_4; obtain ⟨A_4, c_4, hv_4⟩ := hown_4.slice; subst hv_4; have hz_4 := HW_4.out.size; clear hown_4 hg_4 hat_4 HA_4 HQ_4))
    go_loopw [8, 9, 10, 11] (fun f l m k wr => ∃ (i : Nat) (F La Mo : Int), k = .int .i64 i ∧ i ≤ xs.length ∧ f = .int .i64 F ∧ l = .int .i64 La ∧ m = .int .i64 Mo ∧ 0 ≤ F ∧ F ≤ 5994 ∧ 0 ≤ La ∧ La ≤ 5994 ∧ 0 ≤ Mo ∧ Mo ≤ 5994 ∧
        Hid (F = sumI (fixeds (runT xs on i)) ∧ La = sumA (runT xs on i) ∧ Mo = sumB (runT xs on i)) ∧ Hid (Own 4 r4C 27 wr w3.heap.size (.slice A_4 xs.length c_4) (partF xs i)) ∧ Hid (Below w3.heap.size w3 wr)) (fun _ _ _ k _ => xs.length - (intOf k).toNat)
    case atStart => exact ⟨0, 0, 0, 0, rfl, Nat.zero_le _, rfl, rfl, rfl, by omega, by omega, by omega, by omega, by omega, by omega, ⟨rfl, rfl, rfl⟩, by rw [partF_zero]; exact HO_4, HW_4⟩
    case round =>
      obtain ⟨i, F, La, Mo, rfl, hi, rfl, rfl, rfl, hF0, hF1, hA0, hA1, hM0, hM1, HS, HO, HW⟩ := hrel
      have hzw := HW.out.size
      have HDr := Lib.hid (HD_w3.out.below HW.out)
      have HEr := Lib.hid (HE_w3.out.below HW.out)
      by_cases hlt : i < xs.length
      · have hlo : i < on.length := by rw [HM.out]; exact hlt
        obtain ⟨b, off, rfl, hBb, hbz, k0, k1, _, k3⟩ := HDr.out.at4 hlt
        obtain ⟨b', off', rfl, hBb', hbz', k5⟩ := HEr.out.at1 hlo
        have k5' : wr.cell? ⟨b', off' + i, none⟩ = some (.bool on[i]) := k5
        have hpl : i < (partF xs i).length := by rw [partF_len _ _ hi]; exact hlt
        obtain ⟨gf, rfl, hgf, hgz, kk, kf⟩ := HO.out.at_ hpl (by omega)
        have k6 := kk 3 (by omega)
        have k7 := kf (i * 4 + 3)
        have HN := Lib.hid (HO.out.setj (j := 3) (x := free1 xs[i]) hpl (by omega) (fun q hq hne => by rw [partF_at hlt]; rcases q with _ | _ | _ | _ | q <;> first | rfl | omega))
        rw [partF_set hlt] at HN
        have hbd := HBD.out (i + 1)
        have hil : (i : Int) < (xs.length : Int) := by omega
        have hio : (i : Int) < (on.length : Int) := by omega
        have hi0 : (0 : Int) ≤ (i : Int) := by omega
        clear kk kf k5
        cases hb : on[i] with
        | true =>
          have hst := runT_t hlt hlo hb
          rw [← HS.out.1, ← HS.out.2.1, ← HS.out.2.2] at hst
          rw [hst.1, hst.2.1, hst.2.2] at hbd
          have HST := Lib.hid hst; clear hst
          rw [hb] at k5'
          clear hb
          have HNN : Hid (Own 4 r4C 27 (wr.setCell ⟨gf, i * 4 + 3, none⟩ (.int .i64 0)) w3.heap.size (.slice (some ⟨gf, 0, none⟩) xs.length c_4) (partF xs (i + 1))) := HN
          clear HN
          generalize xs[i] = x' at k0 k1 k3 hbd HST k6
          obtain ⟨⟨q1, q2⟩, ⟨q3, q4⟩, ⟨q5, q6⟩⟩ := hbd
          go_wp2_with fail
          refine ⟨⟨i + 1, F + x'.d, La + x'.a, Mo + x'.b, by go_num, by omega, rfl, rfl, rfl, by omega, by omega, by omega, by omega, by omega, by omega, ⟨HST.out.1.symm, HST.out.2.1.symm, HST.out.2.2.symm⟩, HNN, HW.out.setCell (p := ⟨gf, i * 4 + 3, none⟩) hgf _⟩, by simp [intOf]; omega⟩
        | false =>
          have hst := runT_f hlt hlo hb
          have HST := Lib.hid hst; clear hst
          rw [hb] at k5'
          clear hb
          have HNN : Hid (Own 4 r4C 27 (wr.setCell ⟨gf, i * 4 + 3, none⟩ (.int .i64 0)) w3.heap.size (.slice (some ⟨gf, 0, none⟩) xs.length c_4) (partF xs (i + 1))) := HN
          clear HN hbd
          go_wp2_with fail
          refine ⟨⟨i + 1, F, La, Mo, by go_num, by omega, rfl, rfl, rfl, by omega, by omega, by omega, by omega, by omega, by omega, by rw [HST.out]; exact HS, HNN, HW.out.setCell (p := ⟨gf, i * 4 + 3, none⟩) hgf _⟩, by simp [intOf]; omega⟩
      · obtain rfl : i = xs.length := by omega
        have HO' : Hid (Own 4 r4C 27 wr w3.heap.size (.slice A_4 xs.length c_4) (freeU xs)) := by have := HO.out; rw [partF_all] at this; exact this
        have hcc := implCommitCost_any A_4 A2 c_4 c2 (freeU xs) on L hI wr (HO'.out.reads rfl).1 HEr.out.reads.1 (by rw [freeU_len]; exact hxl) hol
        have hlw := HLW.out
        rw [HXX.out] at hlw
        have hrt := runT_all HM.out
        rw [hrt] at HS
        rw [hlw.2.2.1, ← HS.out.1, freeU_len] at hcc
        have HCC := Lib.hid hcc
        have hq1 : La ≤ L := by rw [HS.out.2.1]; exact hlw.2.2.2.1
        have hq2 : L ≤ Mo := by rw [HS.out.2.2]; exact hlw.2.2.2.2
        clear hcc hlw hrt
        have HB_wr : Hid (Below w.heap.size w wr) := HB_w3.out.trans (HW.out.mono HB_w3.out.size)
        go_wp2_with fail; ((with_reducible refine (HCC.out).mono ?_); rintro e w5 ⟨rfl, hb_w5⟩); have HB_w5 : Hid (Below w.heap.size w w5) := HB_wr.out.trans (hb_w5.mono HB_wr.out.size); clear hb_w5
        go_wp2
        all_goals try (exfalso; omega; done)
        all_goals
          go_ret
          exact ⟨rfl, HB_w5.out⟩
end Go.Proofs.YtcpopbkcphpdfaaDoor
