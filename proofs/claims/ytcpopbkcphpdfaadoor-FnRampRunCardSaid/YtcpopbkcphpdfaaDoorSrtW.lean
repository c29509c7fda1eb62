/- slices.SortStableFunc of few indices: the walk. -/
import Derived.Test.YtcpopbkcphpdfaaDoorSrt
import Derived.BigRegion
namespace Go.Proofs.YtcpopbkcphpdfaaDoor
open Go.RowKit Go.Deep
set_option linter.unusedSimpArgs false
set_option linter.unusedVariables false

theorem drewN_drewN (w : World) (m k : Nat) : (w.drewN m).drewN k = w.drewN (m + k) := by simp [World.drewN, Nat.add_assoc]
set_option maxHeartbeats 4000000 in
theorem insSort_any (cp : Value) (key : Nat → Int) (n g c : Nat) (w : World) (hc : CmpOk 70 cp key n g w) (hrow : w.rowIs g 3 n (idxC (List.range n))) (hn : n ≤ 100) :
    Calls Tryd.prog 95 #[.slice (some ⟨g, 0, none⟩) n c, .int .i64 0, .int .i64 n, .func (.func 70) #[] #[cp]] w fun e w' => e = .returned (.tuple #[]) ∧ Mk g (g + 1) w w' ∧ w'.rowIs g 3 n (idxC (ordO key n)) := by
  have HC := Lib.hid hc; clear hc
  have HR := Lib.hid hrow; clear hrow
  go_enter Tryd.func95, Tryd.ntmps95
  go_wp2_with fail
  go_loopw [8] (fun t wr => ∃ (i : Nat), t = .int .i64 i ∧ 1 ≤ i ∧ i ≤ n + 1 ∧ Hid (∃ ds, SrO key n i ds ∧ wr.rowIs g 3 n (idxC ds)) ∧ Hid (Mk g (g + 1) w wr)) (fun t _ => n + 1 - (intOf t).toNat)
  case atStart => exact ⟨1, rfl, by omega, by omega, ⟨_, SrO.zero (by omega), HR.out⟩, Mk.refl _ _ _⟩
  case round =>
    obtain ⟨i, rfl, hi1, hi2, HS, HM⟩ := hrel
    by_cases hlt : i < n
    · have hi3 : (i : Int) < (n : Int) := by omega
      go_wp2_with fail
      go_loopw [9] (fun t wr => ∃ (j : Nat), t = .int .i64 j ∧ j ≤ i ∧ Hid (∃ ds, SrI key n i j ds ∧ wr.rowIs g 3 n (idxC ds)) ∧ Hid (Mk g (g + 1) w wr)) (fun t _ => (intOf t).toNat)
      case atStart =>
        obtain ⟨ds, h1, h2⟩ := HS.out
        exact ⟨i, rfl, Nat.le_refl _, ⟨ds, h1.start hlt, h2⟩, HM⟩
      case round =>
        obtain ⟨j, rfl, hj, HI, HJ⟩ := hrel
        obtain ⟨ds, hsi, hrw⟩ := HI.out
        have HSI := Lib.hid hsi; have HRW := Lib.hid hrw; clear hsi hrw HI
        have hrl := HRW.out.lt
        rcases j with _ | j
        · have hz : decide ((0 : Int) < ((0 : Nat) : Int)) = false := by decide
          have hz2 : decide (0 < (0 : Nat)) = false := by decide
          have HO := Lib.hid (HSI.out.done hj (.inl rfl))
          have HJ2 := HJ
          go_wp2_with fail
          go_quiet (fail)
          go_wp2_with fail
          exact ⟨⟨i + 1, by go_num, by omega, by omega, ⟨ds, HO.out, HRW.out⟩, HJ2.out.drewN _⟩, by simp [intOf]; omega⟩
        · have hjn : j + 1 < n := by omega
          have hc0 : wr.cell? ⟨g, j, none⟩ = some (.int .i64 (dAt ds j : Nat)) := HRW.out.cell (i := j) (by omega)
          have hc1 : wr.cell? ⟨g, j + 1, none⟩ = some (.int .i64 i) := by
            have := HRW.out.cell (i := j + 1) (by omega)
            rw [this]; unfold idxC; rw [HSI.out.at_]
          have hff := HRW.out.frozen
          have hdl : dAt ds j < n := by have := HSI.out.lt j (by omega) (by omega); omega
          have HD := HSI.out
          generalize hd : dAt ds j = d at hc0 hdl
          have HDD := Lib.hid hd; clear hd
          have HE := Lib.hid HD; clear HD
          have hz : decide ((0 : Int) < ((j + 1 : Nat) : Int)) = true := by simp
          have hj0 : (0 : Int) ≤ (j : Int) := by omega
          have hj1 : (j : Int) < (n : Int) := by omega
          have hj2 : ((j + 1 : Nat) : Int) < (n : Int) := by omega
          have hj3 : (0 : Int) ≤ ((j + 1 : Nat) : Int) := by omega
          have hw : IntKind.i64.wrap (((j + 1 : Nat) : Int) - 1) = (j : Int) := by
            rw [show ((j + 1 : Nat) : Int) - 1 = (j : Int) from by omega]; exact IntWalk.i64_in _ (by omega)
          by_cases hk : key i < key d
          · have hcm : cmpI (key i) (key d) = -1 := by unfold cmpI; rw [if_pos hk]
            have hcall : ∀ m, Calls Tryd.prog 70 #[.int .i64 (i : Int), .int .i64 (d : Int), cp] (wr.drewN m) fun e w' => e = .returned (.int .i64 (-1)) ∧ ∃ k, w' = wr.drewN k := by
              intro m
              refine (HC.out i d (wr.drewN m) hlt hdl (HJ.out.drewN m)).mono ?_
              rintro e w' ⟨rfl, k, rfl⟩
              exact ⟨by rw [hcm], m + k, drewN_drewN _ _ _⟩
            have HCL := Lib.hid hcall; clear hcall hcm
            go_wp2_with fail
            go_quiet ((go_at_call 70; exact HCL.out _))
            go_wp2_with fail
            have hgc : ∀ m, (wr.drewN m).cell? ⟨g, j, none⟩ = some (.int .i64 (d : Int)) := fun m => hc0
            have HM2 := Lib.hid hgc; clear hgc
            have HSW := Lib.hid (HE.out.swap hj hlt (by rw [HDD.out]; exact hk))
            have hdi : dAt ds (j + 1) = i := HE.out.at_
            have HDI := Lib.hid hdi; clear hdi
            go_region
            go_wp2_with fail
            refine ⟨⟨j, rfl, by omega, ⟨_, HSW.out, ?_⟩, ?_⟩, by simp [intOf]⟩
            · have hl : ds.length = n := by rw [HSI.out.perm.length_eq, List.length_range]
              refine ((HRW.out.set (j + 1) _).set j _).congr (fun q hq => ?_)
              unfold idxC
              rw [dAt_set (by simp; omega), dAt_set (by omega), HDD.out, HDI.out]
              by_cases e1 : q = j
              · rw [if_pos e1, if_pos e1.symm]
              · rw [if_neg e1, if_neg (show ¬ j = q from fun h => e1 h.symm)]
                by_cases e2 : q = j + 1
                · rw [if_pos e2, if_pos e2.symm]
                · rw [if_neg e2, if_neg (show ¬ j + 1 = q from fun h => e2 h.symm)]
            · exact ((HJ.out.drewN _).set (p := ⟨g, j + 1, none⟩) (Nat.le_refl _) (Nat.lt_succ_self _) _).set (p := ⟨g, j, none⟩) (Nat.le_refl _) (Nat.lt_succ_self _) _
          · have hcm : 0 ≤ cmpI (key i) (key d) ∧ cmpI (key i) (key d) ≤ 1 := by unfold cmpI; rw [if_neg hk]; split <;> omega
            generalize hcv : cmpI (key i) (key d) = cv at hcm
            obtain ⟨hcm0, hcm1⟩ := hcm
            have hcall : ∀ m, Calls Tryd.prog 70 #[.int .i64 (i : Int), .int .i64 (d : Int), cp] (wr.drewN m) fun e w' => e = .returned (.int .i64 cv) ∧ ∃ k, w' = wr.drewN k := by
              intro m
              refine (HC.out i d (wr.drewN m) hlt hdl (HJ.out.drewN m)).mono ?_
              rintro e w' ⟨rfl, k, rfl⟩
              exact ⟨by rw [hcv], m + k, drewN_drewN _ _ _⟩
            have HCL := Lib.hid hcall; clear hcall hcv
            have hcd : decide (cv < 0) = false := by simp; omega
            go_wp2_with fail
            go_quiet ((go_at_call 70; exact HCL.out _))
            clear hw
            go_wp2_with fail
            have HO := Lib.hid (HSI.out.done hj (.inr (by show key (dAt ds j) ≤ key i; rw [HDD.out]; omega)))
            exact ⟨⟨i + 1, by go_num, by omega, by omega, ⟨ds, HO.out, HRW.out⟩, HJ.out.drewN _⟩, by simp [intOf]; omega⟩
    · have hni : (n : Int) ≤ (i : Int) := by omega
      go_wp2_with fail
      go_end0
      obtain ⟨ds, h1, h2⟩ := HS.out
      rw [h1.final (by omega)] at h2
      exact ⟨rfl, HM.out, h2⟩

set_option maxHeartbeats 2000000 in
theorem stableCmp_any (cp : Value) (key : Nat → Int) (n g c : Nat) (w : World) (hc : CmpOk 70 cp key n g w) (hrow : w.rowIs g 3 n (idxC (List.range n))) (hn : n < 20) :
    Calls Tryd.prog 88 #[.slice (some ⟨g, 0, none⟩) n c, .int .i64 n, .func (.func 70) #[] #[cp]] w fun e w' => e = .returned (.tuple #[]) ∧ Mk g (g + 1) w w' ∧ w'.rowIs g 3 n (idxC (ordO key n)) := by
  have HC := Lib.hid hc; clear hc
  have HR := Lib.hid hrow; clear hrow
  have h1 : ¬ (20 : Int) ≤ (n : Int) := by omega
  have h2 : ¬ (20 : Int) < (n : Int) := by omega
  go_enter Tryd.func88, Tryd.ntmps88
  go_wp2_with fail
  go_loopw [7, 8] (fun t u wr => t = .int .i64 0 ∧ u = .int .i64 20 ∧ Hid (wr = w)) (fun _ _ _ => 0)
  case atStart => exact ⟨rfl, rfl, rfl⟩
  case round =>
    obtain ⟨rfl, rfl, HW⟩ := hrel
    have hw := HW.out
    subst hw
    clear HW
    go_wp2_with fail
    refine (insSort_any cp key n g c wr HC.out HR.out (by omega)).mono ?_
    rintro e w1 ⟨rfl, hm, hr⟩
    have HM := Lib.hid hm; have HR1 := Lib.hid hr; clear hm hr
    go_wp2_with fail
    go_loopw [6] (fun t wr' => t = .int .i64 20 ∧ Hid (wr' = w1)) (fun _ _ => 0)
    case atStart => exact ⟨rfl, rfl⟩
    case round =>
      obtain ⟨rfl, HW⟩ := hrel
      go_wp2_with fail
      go_end0
      rw [HW.out]
      exact ⟨rfl, HM.out, HR1.out⟩
theorem sortStable_any (cp : Value) (key : Nat → Int) (n g c : Nat) (w : World) (hc : CmpOk 70 cp key n g w) (hrow : w.rowIs g 3 n (idxC (List.range n))) (hn : n < 20) :
    Calls Tryd.prog 69 #[.slice (some ⟨g, 0, none⟩) n c, .func (.func 70) #[] #[cp]] w fun e w' => e = .returned (.tuple #[]) ∧ Mk g (g + 1) w w' ∧ w'.rowIs g 3 n (idxC (ordO key n)) := by
  have HC := Lib.hid hc; clear hc
  have HR := Lib.hid hrow; clear hrow
  go_enter Tryd.func69, Tryd.ntmps69
  go_wp2_with fail
  refine (stableCmp_any cp key n g c w HC.out HR.out (by omega)).mono ?_
  rintro e w1 ⟨rfl, hm, hr⟩
  have HM := Lib.hid hm; have HR1 := Lib.hid hr; clear hm hr
  go_wp2_with fail
  go_end0
  exact ⟨rfl, HM.out, HR1.out⟩
end Go.Proofs.YtcpopbkcphpdfaaDoor
