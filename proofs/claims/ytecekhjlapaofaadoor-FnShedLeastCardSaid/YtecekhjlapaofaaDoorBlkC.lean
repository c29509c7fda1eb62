/- Blocks: the reference's sum of some of them. -/
import Derived.Test.YtecekhjlapaofaaDoorBlkB
namespace Go.Proofs.YtecekhjlapaofaaDoor
open Go.RowKit
set_option linter.unusedSimpArgs false
set_option linter.unusedVariables false

theorem shSum_none {xs : List R2} {p : Int} {l : List Int} (z z' : Int) : shSum xs p z l = none ↔ shSum xs p z' l = none := by
  induction l generalizing p z z' with
  | nil => simp [shSum]
  | cons y l ih =>
    unfold shSum
    split
    · exact ih _ _
    · simp
set_option maxHeartbeats 4000000 in
theorem specShedSum_any (A B : Option Addr) (c d : Nat) (xs : List R2) (ys : List Int) (w : World) (hR : Reads 2 r2C w w.heap.size A xs) (hS : Reads 1 intC w w.heap.size B ys) (hg : ∀ y ∈ ys, I64 y) (hl : xs.length ≤ 1048576) (hl2 : ys.length ≤ 1048576) :
    Calls Tryd.prog 30 #[.slice A xs.length c, .slice B ys.length d] w fun e w' => e = .returned (.int .i64 (shedSum xs ys)) ∧ Below w.heap.size w w' := by
  generalize hV : shedSum xs ys = V
  have HV := Lib.hid hV; clear hV
  have HR := Lib.hid hR; clear hR
  have HS := Lib.hid hS; clear hS
  have HG := Lib.hid hg; clear hg
  generalize hn : xs.length = n at hl ⊢
  generalize hm : ys.length = m at hl2 ⊢
  have HN := Lib.hid hn; clear hn
  have HM := Lib.hid hm; clear hm
  go_enter Tryd.func30, Tryd.ntmps30
  go_wp2_with fail
  go_loopw [5, 6] (fun t u wr => ∃ (i : Nat) (z : Int), u = .int .i64 i ∧ i ≤ m ∧ t = .int .i64 z ∧ Hid (-1 ≤ prevOf ys i ∧ (shSum xs (prevOf ys i) z (ys.drop i) = none → shSum xs (-1) 0 ys = none) ∧ (BlksP xs → 0 ≤ z ∧ z ≤ 999 * i ∧ shSum xs (prevOf ys i) z (ys.drop i) = shSum xs (-1) 0 ys)) ∧ Hid (∃ q, wr = w.drewN q)) (fun _ u _ => m - (intOf u).toNat)
  case atStart => exact ⟨0, 0, rfl, Nat.zero_le _, rfl, ⟨by simp [prevOf], by simp [prevOf], fun _ => ⟨by omega, by omega, by simp [prevOf]⟩⟩, ⟨0, rfl⟩⟩
  case round =>
    obtain ⟨i, z, rfl, hi, rfl, HA, HW⟩ := hrel
    have HWC : Hid (∀ a, wr.cell? a = w.cell? a) := by obtain ⟨q, hq⟩ := HW.out; unfold Hid; intro a; rw [hq]; rfl
    by_cases hlt : i < m
    · have hx : i < ys.length := by rw [HM.out]; exact hlt
      obtain ⟨b, off, rfl, hb, hc⟩ := HS.out.at1 hx
      have hc1 : wr.cell? ⟨b, off + i, none⟩ = some (.int .i64 ys[i]) := (HWC.out _).trans hc
      obtain ⟨hA1, hA2, hA3⟩ := HA.out
      rw [shSum_step hx rfl, HN.out] at hA2 hA3
      have hsucc := prevOf_succ hx
      have hgy := HG.out ys[i] (List.getElem_mem hx)
      unfold I64 at hgy
      obtain ⟨hg1, hg2⟩ := hgy
      clear hc
      generalize hyy : ys[i] = y at hc1 hA2 hA3 hsucc hg1 hg2
      clear hyy
      have HSC := Lib.hid hsucc; clear hsucc
      have hi1 : (i : Int) < (m : Int) := by omega
      have hi0 : (0 : Int) ≤ (i : Int) := by omega
      have hbad : ¬ (prevOf ys i < y ∧ y < (n : Int)) → Hid (V = -1) := by
        intro hq
        rw [if_neg hq] at hA2
        have hn := hA2 rfl
        have hV := HV.out
        unfold Hid
        rw [← hV]; unfold shedSum; rw [hn]; split <;> rfl
      have HBAD := Lib.hid hbad; clear hbad
      have hA23 := And.intro hA2 hA3
      have HA23 := Lib.hid hA23; clear hA2 hA3 hA23
      by_cases hin : 0 ≤ y ∧ y ≤ (n : Int) - 1
      · have i1 : inB y 0 ((n : Int) - 1) = true := inB_t.2 hin
        obtain ⟨yn, rfl⟩ := Int.eq_ofNat_of_zero_le hin.1
        have hyn' : yn < n := by omega
        have hyn : yn < xs.length := by rw [HN.out]; exact hyn'
        obtain ⟨b2, off2, rfl, hb2, hs0, hs1⟩ := HR.out.at2 hyn
        have hget : xs.getD ((yn : Int)).toNat ⟨0, 0⟩ = xs[yn] := by rw [Int.toNat_natCast, List.getD_eq_getElem?_getD, List.getElem?_eq_getElem hyn]; rfl
        rw [hget] at HA23
        have hs0 := (HWC.out _).trans hs0
        clear hget hs1
        have hsz := fun h : BlksP xs => h.2 _ (List.getElem_mem hyn)
        have HSZ : Hid (BlksP xs → 1 ≤ xs[yn].a ∧ xs[yn].a ≤ 999) := fun h => by have := hsz h; unfold BlkOk at this; omega
        clear hsz
        generalize xs[yn].a = sz at hs0 HA23 HSZ
        have hstep : prevOf ys i < (yn : Int) → Hid (-1 ≤ prevOf ys (i + 1) ∧ (shSum xs (prevOf ys (i + 1)) (wrap64 (z + sz)) (ys.drop (i + 1)) = none → shSum xs (-1) 0 ys = none) ∧ (BlksP xs → 0 ≤ wrap64 (z + sz) ∧ wrap64 (z + sz) ≤ 999 * (i + 1 : Nat) ∧ shSum xs (prevOf ys (i + 1)) (wrap64 (z + sz)) (ys.drop (i + 1)) = shSum xs (-1) 0 ys)) := by
          intro hp
          obtain ⟨g2, g3⟩ := HA23.out
          rw [if_pos ⟨hp, by omega⟩] at g2 g3
          rw [HSC.out]
          refine ⟨by omega, fun h => g2 ((shSum_none _ _).1 h), fun hP => ?_⟩
          obtain ⟨k1, k2, k3⟩ := g3 hP
          have k4 := HSZ.out hP
          have hw : wrap64 (z + sz) = z + sz := IntWalk.wrap64_in _ ⟨by omega, by omega⟩
          rw [hw]
          exact ⟨by omega, by push_cast; omega, k3⟩
        have HST := Lib.hid hstep; clear hstep
        have hw1 : IntKind.i64.wrap ((n : Int) - 1) = (n : Int) - 1 := IntWalk.i64_in _ (by omega)
        by_cases hk : i = 0
        · have hd0 : decide ((0 : Int) < (i : Int)) = false := by simp; omega
          have hd1 : decide (0 < i) = false := by simp; omega
          have hpv : prevOf ys i < (yn : Int) := by simp [prevOf, hk]; omega
          have HST2 := Lib.hid (HST.out hpv)
          clear hk hpv HST HBAD hin
          go_wp2_with fail
          go_quiet ((go_at_call 45; exact quietL (l1In_any _ _ _ _)))
          clear hw1
          go_wp2_with fail
          exact ⟨⟨i + 1, _, by go_num, by omega, rfl, HST2, by obtain ⟨q, hq⟩ := HW.out; exact ⟨_, by rw [hq, World.drewN_drewN]⟩⟩, by simp [intOf]; omega⟩
        · have hd0 : decide ((0 : Int) < (i : Int)) = true := by simp; omega
          have hd1 : decide (0 < i) = true := by simp; omega
          have hA1' : prevOf ys i = ys[i - 1]'(by omega) := by unfold prevOf; rw [if_neg hk, List.getD_eq_getElem?_getD, List.getElem?_eq_getElem (by omega : i - 1 < ys.length)]; rfl
          obtain ⟨b', off', e, _, hcp⟩ := HS.out.at1 (i := i - 1) (by omega)
          injection e with e; injection e with e1 e2
          subst e1 e2
          have hcp : wr.cell? ⟨b, off + (i - 1), none⟩ = some (.int .i64 (ys[i - 1]'(by omega))) := (HWC.out _).trans hcp
          have HST2 : Hid (ys[i - 1]'(by omega) < (yn : Int) → _) := fun h => HST.out (by rw [hA1']; exact h)
          have HBAD2 : Hid (¬ (ys[i - 1]'(by omega) < (yn : Int)) → V = -1) := fun h => HBAD.out (fun h2 => h (by rw [← hA1']; exact h2.1))
          generalize ys[i - 1]'(by omega) = p at HST2 HBAD2 hcp
          clear hA1' hA1 HST HBAD hin
          have hw2 : IntKind.i64.wrap ((i : Int) - 1) = (i : Int) - 1 := IntWalk.i64_in _ (by omega)
          have hw3 : (0 : Int) ≤ (i : Int) - 1 := by omega
          have hw4 : (i : Int) - 1 < (m : Int) := by omega
          have hw5 : ((i : Int) - 1).toNat = i - 1 := by omega
          by_cases hpy : p < (yn : Int)
          · have hd2 : decide ((yn : Int) ≤ p) = false := by simp; omega
            have HST3 := Lib.hid (HST2.out hpy)
            clear hk HST2 HBAD2 hpy
            go_wp2_with fail
            go_quiet ((go_at_call 45; exact quietL (l1In_any _ _ _ _)))
            clear hw1 hw2 hw3 hw4 hw5
            go_wp2_with fail
            exact ⟨⟨i + 1, _, by go_num, by omega, rfl, HST3.out, by obtain ⟨q, hq⟩ := HW.out; exact ⟨_, by rw [hq, World.drewN_drewN]⟩⟩, by simp [intOf]; omega⟩
          · have hd2 : decide ((yn : Int) ≤ p) = true := by simp; omega
            have HB3 := Lib.hid (HBAD2.out hpy)
            clear hk HST2 HBAD2 hpy
            go_wp2_with fail
            go_quiet ((go_at_call 45; exact quietL (l1In_any _ _ _ _)))
            clear hw1 hw2 hw3 hw4 hw5
            go_wp2_with fail
            go_ret
            rw [HB3.out]
            obtain ⟨q', hq⟩ := HW.out
            exact ⟨rfl, by rw [hq]; exact below_drewN' (below_drewN' (Below.refl _ _) _) _⟩
      · have i1 : inB y 0 ((n : Int) - 1) = false := inB_f.2 hin
        have HB3 := Lib.hid (HBAD.out (fun h => hin (by omega)))
        have hw1 : IntKind.i64.wrap ((n : Int) - 1) = (n : Int) - 1 := IntWalk.i64_in _ (by omega)
        clear HBAD hin hA1
        go_wp2_with fail
        go_quiet ((go_at_call 45; exact quietL (l1In_any _ _ _ _)))
        clear hw1
        go_wp2_with fail
        go_ret
        rw [HB3.out]
        obtain ⟨q', hq⟩ := HW.out
        exact ⟨rfl, by rw [hq]; exact below_drewN' (below_drewN' (Below.refl _ _) _) _⟩
    · obtain ⟨q, hq⟩ := HW.out
      subst hq
      obtain ⟨hA1, hA2, hA3⟩ := HA.out
      rw [List.drop_of_length_le (by rw [HM.out]; omega)] at hA2 hA3
      have hV := HV.out
      unfold shedSum at hV
      have hnn := HN.out
      by_cases hp : BlksP xs
      · have hv := blksV_t.2 hp
        obtain ⟨_, _, h3⟩ := hA3 hp
        rw [if_pos hp, ← h3] at hV
        have HV2 := Lib.hid hV
        clear hV h3 hA2 hA3 HA HV hA1
        subst hnn
        go_wp2_with fail; ((with_reducible refine (specBlocksValid_any A c xs (w.drewN q) (Reads.keep (w' := w.drewN q) HR.out (fun _ _ _ => rfl)) hl).mono ?_); rintro e w1 ⟨rfl, hb_1⟩); have hz_1 := hb_1.size; (try simp only [World.size_alloc, World.size_setCell, World.size_drew] at hz_1)
        go_wp2_with fail
        go_ret
        have hB := undrewN hb_1
        exact ⟨by rw [← HV2.out]; rfl, hB⟩
      · have hv := blksV_f.2 hp
        rw [if_neg hp] at hV
        have HV2 := Lib.hid hV
        clear hV hA2 hA3 HA HV hA1
        subst hnn
        go_wp2_with fail; ((with_reducible refine (specBlocksValid_any A c xs (w.drewN q) (Reads.keep (w' := w.drewN q) HR.out (fun _ _ _ => rfl)) hl).mono ?_); rintro e w1 ⟨rfl, hb_2⟩); have hz_2 := hb_2.size; (try simp only [World.size_alloc, World.size_setCell, World.size_drew] at hz_2)
        go_wp2_with fail
        go_ret
        have hB := undrewN hb_2
        exact ⟨by rw [← HV2.out]; rfl, hB⟩
end Go.Proofs.YtecekhjlapaofaaDoor
