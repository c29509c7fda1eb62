/- Blocks: validity. -/
import Derived.Test.YtecekhjlapaofaaDoorL1
import Derived.Test.YtecekhjlapaofaaDoorSlBlock
namespace Go.Proofs.YtecekhjlapaofaaDoor
open Go.RowKit
set_option linter.unusedSimpArgs false
set_option linter.unusedVariables false

def BlkOk (x : R2) : Prop := 1 ≤ x.a ∧ x.a ≤ 999 ∧ 0 ≤ x.b ∧ x.b ≤ 9
instance (x : R2) : Decidable (BlkOk x) := by unfold BlkOk; infer_instance
def BlksP (xs : List R2) : Prop := xs.length ≤ 8 ∧ ∀ x ∈ xs, BlkOk x
instance (xs : List R2) : Decidable (BlksP xs) := by unfold BlksP; infer_instance
def blksV (xs : List R2) : Bool := decide (BlksP xs)
theorem blksV_t {xs : List R2} : blksV xs = true ↔ BlksP xs := by simp [blksV]
theorem blksV_f {xs : List R2} : blksV xs = false ↔ ¬ BlksP xs := by simp [blksV]

set_option maxHeartbeats 1000000 in
theorem implBlocksValid_any (A : Option Addr) (c : Nat) (xs : List R2) (w : World) (hR : Reads 2 r2C w w.heap.size A xs) (hl : xs.length ≤ 1048576) :
    Calls Tryd.prog 26 #[.slice A xs.length c] w fun e w' => e = .returned (.bool (blksV xs)) ∧ Below w.heap.size w w' := by
  have HR := Lib.hid hR; clear hR
  generalize hV : blksV xs = V
  have HV := Lib.hid hV; clear hV
  generalize hn : xs.length = n at hl ⊢
  have HN := Lib.hid hn; clear hn
  by_cases h8 : n ≤ 8
  · go_enter Tryd.func26, Tryd.ntmps26
    go_wp2_with fail
    go_loopw [10] (fun t wr => ∃ i : Nat, t = .int .i64 i ∧ i ≤ n ∧ Hid (∀ j (hj : j < xs.length), j < i → BlkOk xs[j]) ∧ Hid (Below w.heap.size w wr)) (fun t _ => n - (intOf t).toNat)
    case atStart => exact ⟨0, rfl, Nat.zero_le _, fun j _ hj => absurd hj (by omega), Below.refl _ _⟩
    case round =>
      obtain ⟨i, rfl, hi, HA, HB⟩ := hrel
      by_cases hlt : i < n
      · have hx : i < xs.length := by rw [HN.out]; exact hlt
        obtain ⟨b, off, rfl, hb, hc0, hc1⟩ := HR.out.at2 hx
        have hc0 := (HB.out.cell (p := ⟨b, off + i * 2, none⟩) hb).trans hc0
        have hc1 := (HB.out.cell (p := ⟨b, off + i * 2 + 1, none⟩) hb).trans hc1
        have HX : Hid (xs[i] = xs[i]) := rfl
        generalize hxx : xs[i] = x at hc0 hc1 HX
        have HXX := Lib.hid hxx; clear hxx HX
        have hzw := HB.out.size
        by_cases hok : BlkOk x
        · have hok2 := hok
          unfold BlkOk at hok2
          obtain ⟨q1, q2, q3, q4⟩ := hok2
          go_wp2
          all_goals try (exfalso; omega; done)
          go_roundw
          case rel =>
            refine ⟨i + 1, by go_num, by omega, (fun j hj hji => ?_), by unfold Hid; have hB := HB.out; (repeat' (first | (with_reducible exact Below.refl _ _) | (with_reducible refine Below.alloc ?_ ?_ _) | (with_reducible refine Below.setCell ?_ ?_ _) | (with_reducible refine Below.drew ?_) | (refine Below.trans ?_ (Below.mono (by with_reducible assumption) ?_)) | go_size))⟩
            by_cases e : j = i
            · subst e; rw [HXX.out]; exact hok
            · exact HA.out j hj (by omega)
          case measure => simp [intOf]; omega
        · have HOK := Lib.hid hok; clear hok
          go_wp2
          all_goals try (exfalso; apply HOK.out; unfold BlkOk; omega; done)
          all_goals (go_ret; have hV := HV.out; rw [blksV_f.2 (fun hp => HOK.out (by rw [← HXX.out]; exact hp.2 _ (List.getElem_mem hx)))] at hV; refine ⟨by rw [← hV]; rfl, ?_⟩; have hB := HB.out; (repeat' (first | (with_reducible exact Below.refl _ _) | (with_reducible refine Below.alloc ?_ ?_ _) | (with_reducible refine Below.setCell ?_ ?_ _) | (with_reducible refine Below.drew ?_) | (refine Below.trans ?_ (Below.mono (by with_reducible assumption) ?_)) | go_size)))
      · go_wp2
        go_ret
        have hV := HV.out
        have hn := HN.out
        rw [blksV_t.2 ⟨by omega, fun x hx => by obtain ⟨j, hj, rfl⟩ := List.mem_iff_getElem.1 hx; exact HA.out j hj (by omega)⟩] at hV
        exact ⟨by rw [← hV]; rfl, HB.out⟩
  · have h8' : 8 < n := by omega
    go_enter Tryd.func26, Tryd.ntmps26
    go_wp2_with fail
    go_ret
    have hV := HV.out
    have hn := HN.out
    rw [blksV_f.2 (fun hp => by have := hp.1; omega)] at hV
    exact ⟨by rw [← hV]; rfl, Below.refl _ _⟩

set_option maxHeartbeats 1000000 in
theorem specBlocksValid_any (A : Option Addr) (c : Nat) (xs : List R2) (w : World) (hR : Reads 2 r2C w w.heap.size A xs) (hl : xs.length ≤ 1048576) :
    Calls Tryd.prog 27 #[.slice A xs.length c] w fun e w' => e = .returned (.bool (blksV xs)) ∧ Below w.heap.size w w' := by
  have HR := Lib.hid hR; clear hR
  generalize hV : blksV xs = V
  have HV := Lib.hid hV; clear hV
  generalize hn : xs.length = n at hl ⊢
  have HN := Lib.hid hn; clear hn
  go_enter Tryd.func27, Tryd.ntmps27
  go_wp2_with fail
  go_loop [3] (fun t => ∃ i : Nat, t = .int .i64 i ∧ i ≤ n ∧ Hid (∀ j (hj : j < xs.length), j < i → BlkOk xs[j])) (fun t => n - (intOf t).toNat)
  case atStart => exact ⟨0, rfl, Nat.zero_le _, fun j _ hj => absurd hj (by omega)⟩
  case round =>
    obtain ⟨i, rfl, hi, HA⟩ := hrel
    by_cases hlt : i < n
    · have hx : i < xs.length := by rw [HN.out]; exact hlt
      obtain ⟨b, off, rfl, hb, hc0, hc1⟩ := HR.out.at2 hx
      generalize hxx : xs[i] = x at hc0 hc1
      have HXX := Lib.hid hxx; clear hxx
      by_cases hok : BlkOk x
      · have hok2 := hok
        unfold BlkOk at hok2
        have i1 : inB x.a 1 999 = true := inB_t.2 (by omega)
        have i2 : inB x.b 0 9 = true := inB_t.2 (by omega)
        clear hok2
        go_wp2_with (go_at_call 45; refine (l1In_any _ _ _ _).mono ?_; rintro e w' ⟨rfl, rfl⟩)
        go_round
        case rel =>
          refine ⟨i + 1, by go_num, by omega, (fun j hj hji => ?_)⟩
          by_cases e : j = i
          · subst e; rw [HXX.out]; exact hok
          · exact HA.out j hj (by omega)
        case measure => simp [intOf]; omega
      · have HOK := Lib.hid hok; clear hok
        go_wp2_with (go_at_call 45; refine (l1In_any _ _ _ _).mono ?_; rintro e w' ⟨rfl, rfl⟩)
        all_goals try (exfalso; apply HOK.out; unfold BlkOk; simp only [Bool.not_eq_true', Bool.not_eq_false', inB_t, inB_f] at *; omega; done)
        all_goals (go_ret; have hV := HV.out; rw [blksV_f.2 (fun hp => HOK.out (by rw [← HXX.out]; exact hp.2 _ (List.getElem_mem hx)))] at hV; exact ⟨by rw [← hV]; rfl, Below.refl _ _⟩)
    · go_wp2
      go_ret
      have hV := HV.out
      have hn := HN.out
      refine ⟨?_, Below.refl _ _⟩
      rw [← hV]
      refine congrArg (fun b => Ending.returned (Value.bool b)) ?_
      unfold blksV
      refine decide_eq_decide.2 ⟨fun h => ⟨by omega, fun x hx => by obtain ⟨j, hj, rfl⟩ := List.mem_iff_getElem.1 hx; exact HA.out j hj (by omega)⟩, fun h => by have := h.1; omega⟩
end Go.Proofs.YtecekhjlapaofaaDoor
