/- Slices of Relay: copies, comparisons. -/
import Derived.Test.YtkndokcpnlbipaaProg
import Derived.Test.YtkndokcpnlbipaaRk
import Derived.Deep.RegionHeld3
namespace Go.Proofs.Ytkndokcpnlbipaa
open Go.RowKit Go.ChangeShapes Go.WideShapes Go.Deep
set_option linter.unusedSimpArgs false
set_option linter.unusedVariables false
theorem eqRelay_any (a b : Int) (w : World) :
    Calls Try.prog 33 #[.agg #[.int .i64 a, .int .i64 b], .agg #[.int .i64 a, .int .i64 b]] w fun e w' => e = .returned (.bool true) ∧ Below w.heap.size w w' := by
  have e : ∀ x : Int, (x != x) = false := fun x => by simp
  go_enter Try.func33, Try.ntmps33
  go_wp2
  go_ret
  refine ⟨rfl, ?_⟩; (repeat' (first | (with_reducible exact Below.refl _ _) | (with_reducible refine Below.alloc ?_ ?_ _) | (with_reducible refine Below.setCell ?_ ?_ _) | (with_reducible refine Below.drew ?_) | (refine Below.trans ?_ (Below.mono (by with_reducible assumption) ?_)) | go_size))
set_option maxHeartbeats 1000000 in
theorem eqRelayS_any (A B : Option Addr) (c d : Nat) (xs : List R2) (w : World) (hA : Reads 2 r2C w w.heap.size A xs) (hB : Reads 2 r2C w w.heap.size B xs) (hl : xs.length ≤ 1048576) :
    Calls Try.prog 22 #[.slice A xs.length c, .slice B xs.length d] w fun e w' => e = .returned (.bool true) ∧ Below w.heap.size w w' := by
  have HA := Lib.hid hA; clear hA
  have HB := Lib.hid hB; clear hB
  generalize hn : xs.length = n at hl ⊢
  have HN := Lib.hid hn; clear hn
  have hne : ((n : Int) != (n : Int)) = false := by simp
  go_enter Try.func22, Try.ntmps22
  go_wp2_with fail
  go_loopw [5] (fun t wr => ∃ i : Nat, t = .int .i64 i ∧ i ≤ n ∧ Hid (Below w.heap.size w wr)) (fun t _ => n - (intOf t).toNat)
  case atStart => exact ⟨0, rfl, Nat.zero_le _, Below.refl _ _⟩
  case round =>
    obtain ⟨i, rfl, hi, HW⟩ := hrel
    by_cases hlt : i < n
    · have hx : i < xs.length := by rw [HN.out]; exact hlt
      obtain ⟨b, off, rfl, hb, hc0, hc1⟩ := HA.out.at2 hx
      obtain ⟨b', off', rfl, hb', hd0, hd1⟩ := HB.out.at2 hx
      have hc0 := (HW.out.cell (p := ⟨b, off + i * 2, none⟩) hb).trans hc0
      have hd0 := (HW.out.cell (p := ⟨b', off' + i * 2, none⟩) hb').trans hd0
      have hc1 := (HW.out.cell (p := ⟨b, off + i * 2 + 1, none⟩) hb).trans hc1
      have hd1 := (HW.out.cell (p := ⟨b', off' + i * 2 + 1, none⟩) hb').trans hd1
      generalize xs[i] = x at hc0 hd0 hc1 hd1
      have hzw := HW.out.size
      have hbw : b < wr.heap.size := Nat.lt_of_lt_of_le hb hzw
      have hbw' : b' < wr.heap.size := Nat.lt_of_lt_of_le hb' hzw
      have hi1 : (i : Int) < (n : Int) := by omega
      have hi0 : (0 : Int) ≤ (i : Int) := by omega
      go_wp2_with fail
      go_region_held3 (fun w' => w'.cell? ⟨b, off + i * 2, none⟩ = some (.int .i64 x.a) ∧ w'.cell? ⟨b, off + i * 2 + 1, none⟩ = some (.int .i64 x.b) ∧ w'.cell? ⟨b', off' + i * 2, none⟩ = some (.int .i64 x.a) ∧ w'.cell? ⟨b', off' + i * 2 + 1, none⟩ = some (.int .i64 x.b)) (simp [go_sem, World.cell?_alloc_past, *])
        (first | (go_at_call 33; refine (eqRelay_any _ _ _).mono ?_; rintro e w1 ⟨rfl, hb⟩; have cB0 := keepB hb (g := b) (by go_size); have fB0 := keepF hb (g := b) (by go_size); have zB0 := keepZ hb (g := b) (by go_size); have cB1 := keepB hb (g := b') (by go_size); have fB1 := keepF hb (g := b') (by go_size); have zB1 := keepZ hb (g := b') (by go_size); have hz := hb.size; (try simp only [World.size_alloc, World.size_setCell, World.size_drew] at hz)))
      have HX : Hid (Below wr.heap.size wr w1) := by unfold Hid; (repeat' (first | (with_reducible exact Below.refl _ _) | (with_reducible refine Below.alloc ?_ ?_ _) | (with_reducible refine Below.setCell ?_ ?_ _) | (with_reducible refine Below.drew ?_) | (refine Below.trans ?_ (Below.mono (by with_reducible assumption) ?_)) | go_size))
      go_wp2
      refine ⟨⟨i + 1, by go_num, by omega, HW.out.trans (HX.out.mono hzw)⟩, by simp [intOf]; omega⟩
    · go_wp2
      go_ret
      exact ⟨rfl, HW.out⟩
end Go.Proofs.Ytkndokcpnlbipaa
