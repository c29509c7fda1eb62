/- Units: validity. -/
import Derived.Test.YtcpopbkcphpdfaaDoorL1
import Derived.Test.YtcpopbkcphpdfaaDoorSlUnit
namespace Go.Proofs.YtcpopbkcphpdfaaDoor
open Go.RowKit
set_option linter.unusedSimpArgs false
set_option linter.unusedVariables false

theorem powerValid_any (n : Int) (w : World) :
    Calls Tryd.prog 60 #[.int .i64 n] w fun e w' => e = .returned (.bool (inB n 0 999)) ∧ w = w' := by
  go_enter Tryd.func60, Tryd.ntmps60
  go_wp2
  all_goals (go_ret; refine ⟨congrArg (fun b => Ending.returned (Value.bool b)) ?_, rfl⟩)
  all_goals (simp only [inB, ← Bool.decide_and]; first | (refine (decide_eq_true ?_).symm; omega) | (refine (decide_eq_false ?_).symm; omega) | (refine decide_eq_decide.2 ?_; omega))
def UniOk (x : R4) : Prop := 0 ≤ x.a ∧ x.a ≤ x.b ∧ x.b ≤ 999 ∧ 1 ≤ x.c ∧ x.c ≤ 99 ∧ 0 ≤ x.d ∧ x.d ≤ 999
instance (x : R4) : Decidable (UniOk x) := by unfold UniOk; infer_instance
def UnisP (xs : List R4) : Prop := xs.length ≤ 6 ∧ ∀ x ∈ xs, UniOk x
instance (xs : List R4) : Decidable (UnisP xs) := by unfold UnisP; infer_instance
def unisV (xs : List R4) : Bool := decide (UnisP xs)
theorem unisV_t {xs : List R4} : unisV xs = true ↔ UnisP xs := by simp [unisV]
theorem unisV_f {xs : List R4} : unisV xs = false ↔ ¬ UnisP xs := by simp [unisV]

set_option maxHeartbeats 2000000 in
theorem implUnitsValid_any (A : Option Addr) (c : Nat) (xs : List R4) (w : World) (hR : Reads 4 r4C w w.heap.size A xs) (hl : xs.length ≤ 1048576) :
    Calls Tryd.prog 16 #[.slice A xs.length c] w fun e w' => e = .returned (.bool (unisV xs)) ∧ Below w.heap.size w w' := by
  have HR := Lib.hid hR; clear hR
  generalize hV : unisV xs = V
  have HV := Lib.hid hV; clear hV
  generalize hn : xs.length = n at hl ⊢
  have HN := Lib.hid hn; clear hn
  by_cases h8 : n ≤ 6
  · go_enter Tryd.func16, Tryd.ntmps16
    go_wp2_with fail
    go_loopw [10] (fun t wr => ∃ i : Nat, t = .int .i64 i ∧ i ≤ n ∧ Hid (∀ j (hj : j < xs.length), j < i → UniOk xs[j]) ∧ Hid (Below w.heap.size w wr)) (fun t _ => n - (intOf t).toNat)
    case atStart => exact ⟨0, rfl, Nat.zero_le _, fun j _ hj => absurd hj (by omega), Below.refl _ _⟩
    case round =>
      obtain ⟨i, rfl, hi, HA, HB⟩ := hrel
      by_cases hlt : i < n
      · have hx : i < xs.length := by rw [HN.out]; exact hlt
        obtain ⟨b, off, rfl, hb, hc0, hc1, hc2, hc3⟩ := HR.out.at4 hx
        have hc0 := (HB.out.cell (p := ⟨b, off + i * 4, none⟩) hb).trans hc0
        have hc1 := (HB.out.cell (p := ⟨b, off + i * 4 + 1, none⟩) hb).trans hc1
        have hc2 := (HB.out.cell (p := ⟨b, off + i * 4 + 2, none⟩) hb).trans hc2
        have hc3 := (HB.out.cell (p := ⟨b, off + i * 4 + 3, none⟩) hb).trans hc3
        generalize hxx : xs[i] = x at hc0 hc1 hc2 hc3
        have HXX := Lib.hid hxx; clear hxx
        have hzw := HB.out.size
        by_cases hok : UniOk x
        · have hok2 := hok
          unfold UniOk at hok2
          obtain ⟨q1, q2, q3, q4, q5, q6, q7⟩ := hok2
          have ip : inB x.d 0 999 = true := inB_t.2 ⟨q6, q7⟩
          go_wp2_with (go_at_call 60; refine (powerValid_any _ _).mono ?_; rintro e w' ⟨rfl, rfl⟩)
          all_goals try (exfalso; omega; done)
          go_roundw
          case rel =>
            refine ⟨i + 1, by go_num, by omega, (fun j hj hji => ?_), by unfold Hid; have hB := HB.out; (repeat' (first | (with_reducible exact Below.refl _ _) | (with_reducible refine Below.alloc ?_ ?_ _) | (with_reducible refine Below.setCell ?_ ?_ _) | (with_reducible refine Below.drew ?_) | (refine Below.trans ?_ (Below.mono (by with_reducible assumption) ?_)) | go_size))⟩
            by_cases e : j = i
            · subst e; rw [HXX.out]; exact hok
            · exact HA.out j hj (by omega)
          case measure => simp [intOf]; omega
        · have HOK := Lib.hid hok; clear hok
          go_wp2_with (go_at_call 60; refine (powerValid_any _ _).mono ?_; rintro e w' ⟨rfl, rfl⟩)
          all_goals try (exfalso; apply HOK.out; unfold UniOk; simp only [Bool.not_eq_true', Bool.not_eq_false', inB_t, inB_f] at *; omega; done)
          all_goals (go_ret; have hV := HV.out; rw [unisV_f.2 (fun hp => HOK.out (by rw [← HXX.out]; exact hp.2 _ (List.getElem_mem hx)))] at hV; refine ⟨by rw [← hV]; rfl, ?_⟩; have hB := HB.out; (repeat' (first | (with_reducible exact Below.refl _ _) | (with_reducible refine Below.alloc ?_ ?_ _) | (with_reducible refine Below.setCell ?_ ?_ _) | (with_reducible refine Below.drew ?_) | (refine Below.trans ?_ (Below.mono (by with_reducible assumption) ?_)) | go_size)))
      · go_wp2
        go_ret
        have hV := HV.out
        have hn := HN.out
        rw [unisV_t.2 ⟨by omega, fun x hx => by obtain ⟨j, hj, rfl⟩ := List.mem_iff_getElem.1 hx; exact HA.out j hj (by omega)⟩] at hV
        exact ⟨by rw [← hV]; rfl, HB.out⟩
  · have h8' : 6 < n := by omega
    go_enter Tryd.func16, Tryd.ntmps16
    go_wp2_with fail
    go_ret
    have hV := HV.out
    have hn := HN.out
    rw [unisV_f.2 (fun hp => by have := hp.1; omega)] at hV
    exact ⟨by rw [← hV]; rfl, Below.refl _ _⟩

set_option maxHeartbeats 2000000 in
theorem specUnitsValid_any (A : Option Addr) (c : Nat) (xs : List R4) (w : World) (hR : Reads 4 r4C w w.heap.size A xs) (hl : xs.length ≤ 1048576) :
    Calls Tryd.prog 17 #[.slice A xs.length c] w fun e w' => e = .returned (.bool (unisV xs)) ∧ Below w.heap.size w w' := by
  have HR := Lib.hid hR; clear hR
  generalize hV : unisV xs = V
  have HV := Lib.hid hV; clear hV
  generalize hn : xs.length = n at hl ⊢
  have HN := Lib.hid hn; clear hn
  go_enter Tryd.func17, Tryd.ntmps17
  go_wp2_with fail
  go_loopw [3] (fun t wr => ∃ i : Nat, t = .int .i64 i ∧ i ≤ n ∧ Hid (∀ j (hj : j < xs.length), j < i → UniOk xs[j]) ∧ Hid (Below w.heap.size w wr)) (fun t _ => n - (intOf t).toNat)
  case atStart => exact ⟨0, rfl, Nat.zero_le _, fun j _ hj => absurd hj (by omega), Below.refl _ _⟩
  case round =>
    obtain ⟨i, rfl, hi, HA, HB⟩ := hrel
    by_cases hlt : i < n
    · have hx : i < xs.length := by rw [HN.out]; exact hlt
      obtain ⟨b, off, rfl, hb, hc0, hc1, hc2, hc3⟩ := HR.out.at4 hx
      have hc0 := (HB.out.cell (p := ⟨b, off + i * 4, none⟩) hb).trans hc0
      have hc1 := (HB.out.cell (p := ⟨b, off + i * 4 + 1, none⟩) hb).trans hc1
      have hc2 := (HB.out.cell (p := ⟨b, off + i * 4 + 2, none⟩) hb).trans hc2
      have hc3 := (HB.out.cell (p := ⟨b, off + i * 4 + 3, none⟩) hb).trans hc3
      generalize hxx : xs[i] = x at hc0 hc1 hc2 hc3
      have HXX := Lib.hid hxx; clear hxx
      have hzw := HB.out.size
      by_cases hok : UniOk x
      · have hok2 := hok
        unfold UniOk at hok2
        have i1 : inB x.b 0 999 = true := inB_t.2 (by omega)
        have i2 : inB x.a 0 x.b = true := inB_t.2 (by omega)
        have i3 : inB x.c 1 99 = true := inB_t.2 (by omega)
        have i4 : inB x.d 0 999 = true := inB_t.2 (by omega)
        clear hok2
        go_wp2_with (go_at_call 61; refine (l1In_any _ _ _ _).mono ?_; rintro e w' ⟨rfl, rfl⟩)
        go_roundw
        case rel =>
          refine ⟨i + 1, by go_num, by omega, (fun j hj hji => ?_), by unfold Hid; have hB := HB.out; (repeat' (first | (with_reducible exact Below.refl _ _) | (with_reducible refine Below.alloc ?_ ?_ _) | (with_reducible refine Below.setCell ?_ ?_ _) | (with_reducible refine Below.drew ?_) | (refine Below.trans ?_ (Below.mono (by with_reducible assumption) ?_)) | go_size))⟩
          by_cases e : j = i
          · subst e; rw [HXX.out]; exact hok
          · exact HA.out j hj (by omega)
        case measure => simp [intOf]; omega
      · have HOK := Lib.hid hok; clear hok
        go_wp2_with (go_at_call 61; refine (l1In_any _ _ _ _).mono ?_; rintro e w' ⟨rfl, rfl⟩)
        all_goals try (exfalso; apply HOK.out; unfold UniOk; simp only [Bool.not_eq_true', Bool.not_eq_false', inB_t, inB_f] at *; omega; done)
        all_goals (go_ret; have hV := HV.out; rw [unisV_f.2 (fun hp => HOK.out (by rw [← HXX.out]; exact hp.2 _ (List.getElem_mem hx)))] at hV; refine ⟨by rw [← hV]; rfl, ?_⟩; have hB := HB.out; (repeat' (first | (with_reducible exact Below.refl _ _) | (with_reducible refine Below.alloc ?_ ?_ _) | (with_reducible refine Below.setCell ?_ ?_ _) | (with_reducible refine Below.drew ?_) | (refine Below.trans ?_ (Below.mono (by with_reducible assumption) ?_)) | go_size)))
    · go_wp2
      go_ret
      have hV := HV.out
      have hn := HN.out
      refine ⟨?_, HB.out⟩
      rw [← hV]
      refine congrArg (fun b => Ending.returned (Value.bool b)) ?_
      unfold unisV
      refine decide_eq_decide.2 ⟨fun h => ⟨by omega, fun x hx => by obtain ⟨j, hj, rfl⟩ := List.mem_iff_getElem.1 hx; exact HA.out j hj (by omega)⟩, fun h => by have := h.1; omega⟩
end Go.Proofs.YtcpopbkcphpdfaaDoor
