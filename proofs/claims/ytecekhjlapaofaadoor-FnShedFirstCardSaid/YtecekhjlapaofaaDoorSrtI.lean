/- slices.Sort of few ints. -/
import Derived.Test.YtecekhjlapaofaaDoorProg
import Derived.Test.YtecekhjlapaofaaDoorSrtP
import Derived.Test.YtecekhjlapaofaaDoorMk
import Derived.RegionTactic
import Derived.BigRegion
import Derived.Lib.Tables
namespace Go.Proofs.YtecekhjlapaofaaDoor
open Go.RowKit Go.Deep
set_option linter.unusedSimpArgs false
set_option linter.unusedVariables false
def zAt (ds : List Int) (p : Nat) : Int := ds.getD p 0
theorem zAt_set {ds : List Int} {k j : Nat} {v : Int} (h : k < ds.length) : zAt (ds.set k v) j = if k = j then v else zAt ds j := by
  unfold zAt
  rw [List.getD_eq_getElem?_getD, List.getElem?_set, List.getD_eq_getElem?_getD]
  by_cases e : k = j
  · subst e; simp [h]
  · simp [e]
theorem zAt_get {ds : List Int} {k : Nat} (h : k < ds.length) : zAt ds k = ds[k] := by
  unfold zAt; rw [List.getD_eq_getElem?_getD, List.getElem?_eq_getElem h]; rfl
structure SoO (zs : List Int) (i : Nat) (ds : List Int) : Prop where
  perm : ds.Perm zs
  ord : ∀ p q, p < q → q < i → zAt ds p ≤ zAt ds q
structure SoI (zs : List Int) (i j : Nat) (ds : List Int) : Prop where
  perm : ds.Perm zs
  ord : ∀ p q, p < q → q ≤ i → p ≠ j → q ≠ j → zAt ds p ≤ zAt ds q
  gt : ∀ q, j < q → q ≤ i → zAt ds j ≤ zAt ds q
theorem SoO.start {zs ds : List Int} {i : Nat} (h : SoO zs i ds) : SoI zs i i ds := ⟨h.perm, fun p q h1 h2 h3 h4 => h.ord p q h1 (by omega), fun q h1 h2 => by omega⟩
theorem SoI.done {zs ds : List Int} {i j : Nat} (h : SoI zs i j ds) (hj : j ≤ i) (hs : j = 0 ∨ zAt ds (j - 1) ≤ zAt ds j) : SoO zs (i + 1) ds := by
  refine ⟨h.perm, fun p q h1 h2 => ?_⟩
  by_cases hp : p = j
  · subst hp; exact h.gt q h1 (by omega)
  · by_cases hq : q = j
    · subst hq
      rcases hs with h0 | hs
      · omega
      · by_cases hp1 : p = q - 1
        · subst hp1; exact hs
        · have := h.ord p (q - 1) (by omega) (by omega) hp (by omega); omega
    · exact h.ord p q h1 (by omega) hp hq
theorem SoI.swap {zs ds : List Int} {i j : Nat} (h : SoI zs i (j + 1) ds) (hj : j + 1 ≤ i) (hi : i < ds.length) (hk : zAt ds (j + 1) < zAt ds j) : SoI zs i j ((ds.set (j + 1) (zAt ds j)).set j (zAt ds (j + 1))) := by
  have e : ∀ p, zAt ((ds.set (j + 1) (zAt ds j)).set j (zAt ds (j + 1))) p = if j = p then zAt ds (j + 1) else if j + 1 = p then zAt ds j else zAt ds p := fun p => by
    rw [zAt_set (by simp; omega), zAt_set (by omega)]
  refine ⟨?_, fun p q h1 h2 h3 h4 => ?_, fun q h1 h2 => ?_⟩
  · rw [zAt_get (by omega : j < ds.length), zAt_get (by omega : j + 1 < ds.length)]
    exact (swap_perm ds j (by omega)).trans h.perm
  · rw [e p, e q, if_neg (show ¬ j = p from fun h => h3 h.symm), if_neg (show ¬ j = q from fun h => h4 h.symm)]
    by_cases hp : j + 1 = p
    · rw [if_pos hp, if_neg (by omega)]; exact h.ord j q (by omega) h2 (by omega) (by omega)
    · rw [if_neg hp]
      by_cases hq : j + 1 = q
      · rw [if_pos hq]; exact h.ord p j (by omega) (by omega) (by omega) (by omega)
      · rw [if_neg hq]; exact h.ord p q h1 h2 (by omega) (by omega)
  · rw [e j, if_pos rfl, e q, if_neg (by omega)]
    by_cases hq : j + 1 = q
    · rw [if_pos hq]; omega
    · rw [if_neg hq]; exact h.gt q (by omega) h2
theorem SoO.sorted {zs ds : List Int} (h : SoO zs ds.length ds) : ds.Pairwise (· ≤ ·) := by
  refine List.pairwise_iff_getElem.2 fun p q h1 h2 h3 => ?_
  have := h.ord p q h3 h2
  rw [zAt_get h1, zAt_get h2] at this; exact this
/-- What the row's cells hold: the list ahead, and what was there behind it. -/
def frontC (ds : List Int) (f : Nat → Value) (j : Nat) : Value := if j < ds.length then .int .i64 (zAt ds j) else f j
theorem less_any (a b : Int) (w : World) :
    Calls Tryd.prog 68 #[.int .i64 a, .int .i64 b] w fun e w' => e = .returned (.bool (decide (a < b))) ∧ w = w' := by
  have hn : ∀ (x : Int) (W : World), Calls Tryd.prog 48 #[.int .i64 x] W fun e w' => e = .returned (.bool false) ∧ W = w' := by
    intro x W
    have hx : (x != x) = false := by simp
    go_enter Tryd.func48, Tryd.ntmps48
    go_wp2
    go_ret
    exact ⟨rfl, rfl⟩
  have HN := Lib.hid hn; clear hn
  go_enter Tryd.func68, Tryd.ntmps68
  go_wp2_with (go_at_call 48; refine (HN.out _ _).mono ?_; rintro e w' ⟨rfl, rfl⟩)
  go_ret
  exact ⟨rfl, rfl⟩
set_option maxHeartbeats 4000000 in
theorem insOrd_any (zs : List Int) (m g c n : Nat) (f : Nat → Value) (w : World) (hn : zs.length = n) (hrow : w.rowIs g 3 m (frontC zs f)) (hm : n ≤ m) (h8 : n ≤ 12) :
    Calls Tryd.prog 62 #[.slice (some ⟨g, 0, none⟩) n c, .int .i64 0, .int .i64 n] w fun e w' => e = .returned (.tuple #[]) ∧ Mk g (g + 1) w w' ∧ ∃ ds : List Int, ds.Perm zs ∧ ds.Pairwise (· ≤ ·) ∧ w'.rowIs g 3 m (frontC ds f) := by
  have HR := Lib.hid hrow; clear hrow
  have HN := Lib.hid hn; clear hn
  go_enter Tryd.func62, Tryd.ntmps62
  go_wp2_with fail
  go_loopw [6] (fun t wr => ∃ (i : Nat), t = .int .i64 i ∧ 1 ≤ i ∧ i ≤ n + 1 ∧ Hid (∃ ds, SoO zs i ds ∧ wr.rowIs g 3 m (frontC ds f)) ∧ Hid (Mk g (g + 1) w wr)) (fun t _ => n + 1 - (intOf t).toNat)
  case atStart => exact ⟨1, rfl, by omega, by omega, ⟨zs, ⟨List.Perm.refl _, fun p q h1 h2 => by omega⟩, HR.out⟩, Mk.refl _ _ _⟩
  case round =>
    obtain ⟨i, rfl, hi1, hi2, HS, HM⟩ := hrel
    by_cases hlt : i < n
    · have hi3 : (i : Int) < (n : Int) := by omega
      go_wp2_with fail
      go_loopw [7] (fun t wr => ∃ (j : Nat), t = .int .i64 j ∧ j ≤ i ∧ Hid (∃ ds, SoI zs i j ds ∧ wr.rowIs g 3 m (frontC ds f)) ∧ Hid (Mk g (g + 1) w wr)) (fun t _ => (intOf t).toNat)
      case atStart =>
        obtain ⟨ds, h1, h2⟩ := HS.out
        exact ⟨i, rfl, Nat.le_refl _, ⟨ds, h1.start, h2⟩, HM⟩
      case round =>
        obtain ⟨j, rfl, hj, HI, HJ⟩ := hrel
        obtain ⟨ds, hsi, hrw⟩ := HI.out
        have hdl : ds.length = n := by rw [hsi.perm.length_eq]; exact HN.out
        have HDL := Lib.hid hdl; clear hdl
        have HSI := Lib.hid hsi; have HRW := Lib.hid hrw; clear hsi hrw HI
        have hrl := HRW.out.lt
        rcases j with _ | j
        · have hz : decide ((0 : Int) < ((0 : Nat) : Int)) = false := by decide
          have hz2 : decide (0 < (0 : Nat)) = false := by decide
          have HO := Lib.hid (HSI.out.done hj (.inl rfl))
          have HJ2 := HJ
          go_wp2_with fail
          go_quiet (fail)
          go_wp2_with fail
          exact ⟨⟨i + 1, by go_num, by omega, by omega, ⟨ds, HO.out, HRW.out⟩, HJ2.out.drewN _⟩, by simp [intOf]; omega⟩
        · have hc0 : wr.cell? ⟨g, j, none⟩ = some (.int .i64 (zAt ds j)) := by
            have := HRW.out.cell (i := j) (by omega)
            rw [this]; unfold frontC; rw [if_pos (by rw [HDL.out]; omega)]
          have hc1 : wr.cell? ⟨g, j + 1, none⟩ = some (.int .i64 (zAt ds (j + 1))) := by
            have := HRW.out.cell (i := j + 1) (by omega)
            rw [this]; unfold frontC; rw [if_pos (by rw [HDL.out]; omega)]
          have hff := HRW.out.frozen
          have hsw := fun hh => HSI.out.swap hj (by rw [HDL.out]; exact hlt) hh
          have hdn := fun hh => HSI.out.done hj (.inr hh)
          have hst : ∀ (a b : Int), (ds.set (j + 1) a).set j b = (ds.set (j + 1) a).set j b := fun _ _ => rfl
          have HSW := Lib.hid hsw; have HDN := Lib.hid hdn; clear hsw hdn hst
          have hpa : ∃ a, zAt ds j = a := ⟨_, rfl⟩
          have hpb : ∃ b, zAt ds (j + 1) = b := ⟨_, rfl⟩
          obtain ⟨a, hpa⟩ := hpa
          obtain ⟨b, hpb⟩ := hpb
          rw [hpa] at hc0
          rw [hpb] at hc1
          have HPA := Lib.hid hpa; have HPB := Lib.hid hpb; clear hpa hpb
          have hz : decide ((0 : Int) < ((j + 1 : Nat) : Int)) = true := by simp
          have hj0 : (0 : Int) ≤ (j : Int) := by omega
          have hj1 : (j : Int) < (n : Int) := by omega
          have hj2 : ((j + 1 : Nat) : Int) < (n : Int) := by omega
          have hj3 : (0 : Int) ≤ ((j + 1 : Nat) : Int) := by omega
          have hw : IntKind.i64.wrap (((j + 1 : Nat) : Int) - 1) = (j : Int) := by
            rw [show ((j + 1 : Nat) : Int) - 1 = (j : Int) from by omega]; exact IntWalk.i64_in _ (by omega)
          by_cases hk : b < a
          · have HCL : Hid (∀ k, Calls Tryd.prog 68 #[.int .i64 b, .int .i64 a] (wr.drewN k) fun e w' => e = .returned (.bool true) ∧ wr.drewN k = w') := fun k => by
              have := less_any b a (wr.drewN k)
              rwa [show decide (b < a) = true from by simp [hk]] at this
            have HK := Lib.hid hk
            go_wp2_with fail
            go_quiet ((go_at_call 68; exact quietL (HCL.out _)))
            go_wp2_with fail
            have hgc : ∀ m, (wr.drewN m).cell? ⟨g, j, none⟩ = some (.int .i64 a) := fun m => hc0
            have HM2 := Lib.hid hgc; clear hgc
            go_region
            go_wp2_with fail
            refine ⟨⟨j, rfl, by omega, ⟨_, HSW.out (by rw [HPA.out, HPB.out]; exact HK.out), ?_⟩, ?_⟩, by simp [intOf]⟩
            · refine ((HRW.out.set (j + 1) _).set j _).congr (fun q hq => ?_)
              have hl := HDL.out
              unfold frontC
              rw [HPA.out, HPB.out, zAt_set (by simp; omega), zAt_set (by omega)]
              simp only [List.length_set]
              by_cases e1 : q = j
              · rw [if_pos e1, if_pos (by omega), if_pos e1.symm]
              · rw [if_neg e1]
                by_cases e2 : q = j + 1
                · rw [if_pos e2, if_pos (by omega), if_neg (by omega), if_pos e2.symm]
                · rw [if_neg e2, if_neg (show ¬ j = q from fun h => e1 h.symm), if_neg (show ¬ j + 1 = q from fun h => e2 h.symm)]
            · exact ((HJ.out.drewN _).set (p := ⟨g, j + 1, none⟩) (Nat.le_refl _) (Nat.lt_succ_self _) _).set (p := ⟨g, j, none⟩) (Nat.le_refl _) (Nat.lt_succ_self _) _
          · have HCL : Hid (∀ k, Calls Tryd.prog 68 #[.int .i64 b, .int .i64 a] (wr.drewN k) fun e w' => e = .returned (.bool false) ∧ wr.drewN k = w') := fun k => by
              have := less_any b a (wr.drewN k)
              rwa [show decide (b < a) = false from by simp; omega] at this
            have HK := Lib.hid hk
            go_wp2_with fail
            go_quiet ((go_at_call 68; exact quietL (HCL.out _)))
            clear hw
            go_wp2_with fail
            have HO := Lib.hid (HDN.out (by show zAt ds j ≤ zAt ds (j + 1); rw [HPA.out, HPB.out]; have := HK.out; omega))
            exact ⟨⟨i + 1, by go_num, by omega, by omega, ⟨ds, HO.out, HRW.out⟩, HJ.out.drewN _⟩, by simp [intOf]; omega⟩
    · have hni : (n : Int) ≤ (i : Int) := by omega
      go_wp2_with fail
      go_end0
      obtain ⟨ds, h1, h2⟩ := HS.out
      have hl : ds.length = n := by rw [h1.perm.length_eq]; exact HN.out
      exact ⟨rfl, HM.out, ds, h1.perm, SoO.sorted ⟨h1.perm, fun p q a b => h1.ord p q a (by omega)⟩, h2⟩
end Go.Proofs.YtecekhjlapaofaaDoor
