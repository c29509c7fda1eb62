/- Slices of ints and of bools: copies, comparisons. -/
import Derived.Test.YtdfgdeccejcpfaaProg
import Derived.Test.YtdfgdeccejcpfaaSl
namespace Go.Proofs.Ytdfgdeccejcpfaa
open Go.RowKit Go.ChangeShapes Go.WideShapes Go.Deep
set_option linter.unusedSimpArgs false
set_option linter.unusedVariables false
theorem toBoolS_any (A : Option Addr) (c : Nat) (xs : List Bool) (w : World) (hR : Reads 1 boolC w w.heap.size A xs) (hl : xs.length ≤ 1048576) :
    Calls Try.prog 17 #[.slice A xs.length c] w (RetS 1 boolC 4 w xs) := by
  have hmk := fun W => run_mk (P := Try.prog) 36 4 (.bool false) 1 1 xs.length Try.underlying36 (by kernel_rfl) (by omega) (by omega) W
  have HR := Lib.hid hR; clear hR
  generalize hn : xs.length = n at hmk hl ⊢
  have HN := Lib.hid hn; clear hn
  go_enter Try.func17, Try.ntmps17
  go_wp2_with fail
  go_loopw [4] (fun t wr => ∃ i : Nat, t = .int .i64 i ∧ i ≤ n ∧ Hid (wr.rowIs w.heap.size 4 n (fun j => if j < i then boolC (xs.getD j false) 0 else .bool false)) ∧ Hid (Below w.heap.size w wr)) (fun t _ => n - (intOf t).toNat)
  case atStart =>
    refine ⟨0, rfl, Nat.zero_le _, ?_, ?_⟩
    · unfold Hid
      have h := World.rowIs_made w (.bool false) n 4
      try simp only [Nat.mul_one]
      exact h.congr (fun i _ => by simp)
    · unfold Hid; (repeat' (first | (with_reducible exact Below.refl _ _) | (with_reducible refine Below.alloc ?_ ?_ _) | (with_reducible refine Below.setCell ?_ ?_ _) | (with_reducible refine Below.drew ?_) | (refine Below.trans ?_ (Below.mono (by with_reducible assumption) ?_)) | go_size))
  case round =>
    obtain ⟨i, rfl, hi, HRow, HB⟩ := hrel
    by_cases hlt : i < n
    · obtain ⟨b, off, rfl, hb, hc⟩ := HR.out.at1 (i := i) (by rw [HN.out]; exact hlt)
      have hg : xs.getD i false = (xs[i]'(by rw [HN.out]; exact hlt)) := by rw [List.getD_eq_getElem?_getD, List.getElem?_eq_getElem (by rw [HN.out]; exact hlt)]; rfl
      have hc1 : wr.cell? ⟨b, off + i, none⟩ = some (.bool (xs[i]'(by rw [HN.out]; exact hlt))) := (HB.out.cell (p := ⟨b, off + i, none⟩) hb).trans hc
      rw [← hg] at hc1
      have hc2 := HRow.out.cell hlt
      have hf2 := HRow.out.frozen i
      simp only [Nat.lt_irrefl, if_false] at hc2
      clear hc hmk hg
      generalize hx : xs.getD i false = x at hc1
      have HX := Lib.hid hx; clear hx
      go_wp2
      go_roundw
      case rel =>
        refine ⟨i + 1, by go_num, by omega, ?_, ?_⟩
        · unfold Hid
          refine (HRow.out.set i _).congr (fun j hj => ?_)
          by_cases hji : j = i
          · subst hji; rw [if_pos rfl, if_pos (by omega), HX.out]; rfl
          · rw [if_neg hji]
            by_cases hj2 : j < i
            · rw [if_pos hj2, if_pos (by omega)]
            · rw [if_neg hj2, if_neg (by omega)]
        · unfold Hid; exact HB.out.setCell (Nat.le_refl _) _
      case measure => simp [intOf]; omega
    · clear hmk
      go_wp2
      go_ret
      refine ⟨_, rfl, Res.of_row (Nat.le_refl _) HRow.out HN.out.symm (by rw [HN.out]; omega) (fun j x hx k hk => ?_), HB.out⟩
      obtain ⟨hj, e⟩ := getElem?_of_lt hx
      obtain rfl : k = 0 := by omega
      rw [Nat.mul_one, Nat.add_zero, if_pos (by rw [← HN.out] at hlt; omega), List.getD_eq_getElem?_getD, hx]
      rfl
theorem eqBoolS_any (A B : Option Addr) (c d : Nat) (xs : List Bool) (w : World) (hA : Reads 1 boolC w w.heap.size A xs) (hB : Reads 1 boolC w w.heap.size B xs) (hl : xs.length ≤ 1048576) :
    Calls Try.prog 20 #[.slice A xs.length c, .slice B xs.length d] w fun e w' => e = .returned (.bool true) ∧ Below w.heap.size w w' := by
  have HA := Lib.hid hA; clear hA
  have HB := Lib.hid hB; clear hB
  generalize hn : xs.length = n at hl ⊢
  have HN := Lib.hid hn; clear hn
  have hne : ((n : Int) != (n : Int)) = false := by simp
  go_enter Try.func20, Try.ntmps20
  go_wp2_with fail
  go_loopw [5] (fun t wr => ∃ i : Nat, t = .int .i64 i ∧ i ≤ n ∧ Hid (∃ m, wr = w.drewN m)) (fun t _ => n - (intOf t).toNat)
  case atStart => exact ⟨0, rfl, Nat.zero_le _, ⟨0, rfl⟩⟩
  case round =>
    obtain ⟨i, rfl, hi, HW⟩ := hrel
    obtain ⟨m, rfl⟩ := HW.out
    clear HW
    by_cases hlt : i < n
    · have hx : i < xs.length := by rw [HN.out]; exact hlt
      obtain ⟨b, off, rfl, _, hc⟩ := HA.out.at1 hx
      obtain ⟨b', off', rfl, _, hc'⟩ := HB.out.at1 hx
      have hc1 : w.cell? ⟨b, off + i, none⟩ = some (.bool xs[i]) := hc
      have hc2 : w.cell? ⟨b', off' + i, none⟩ = some (.bool xs[i]) := hc'
      clear hc hc'
      generalize xs[i] = x at hc1 hc2
      have hxx : (x != x) = false := by simp
      have hi1 : (i : Int) < (n : Int) := by omega
      have hi0 : (0 : Int) ≤ (i : Int) := by omega
      go_wp2_with fail
      go_quiet (fail)
      go_wp2_with fail
      go_roundw
      case rel => exact ⟨i + 1, by go_num, by omega, ⟨_, rfl⟩⟩
      case measure => simp [intOf]; omega
    · go_wp2
      go_ret
      exact ⟨rfl, below_drewN' (Below.refl _ _) _⟩
theorem toIntS_any (A : Option Addr) (c : Nat) (xs : List Int) (w : World) (hR : Reads 1 intC w w.heap.size A xs) (hl : xs.length ≤ 1048576) :
    Calls Try.prog 11 #[.slice A xs.length c] w (RetS 1 intC 3 w xs) := by
  have hmk := fun W => run_mk (P := Try.prog) 25 3 (.int .i64 0) 1 8 xs.length Try.underlying25 (by kernel_rfl) (by omega) (by omega) W
  have HR := Lib.hid hR; clear hR
  generalize hn : xs.length = n at hmk hl ⊢
  have HN := Lib.hid hn; clear hn
  go_enter Try.func11, Try.ntmps11
  go_wp2_with fail
  go_loopw [4] (fun t wr => ∃ i : Nat, t = .int .i64 i ∧ i ≤ n ∧ Hid (wr.rowIs w.heap.size 3 n (fun j => if j < i then intC (xs.getD j 0) 0 else .int .i64 0)) ∧ Hid (Below w.heap.size w wr)) (fun t _ => n - (intOf t).toNat)
  case atStart =>
    refine ⟨0, rfl, Nat.zero_le _, ?_, ?_⟩
    · unfold Hid
      have h := World.rowIs_made w (.int .i64 0) n 3
      try simp only [Nat.mul_one]
      exact h.congr (fun i _ => by simp)
    · unfold Hid; (repeat' (first | (with_reducible exact Below.refl _ _) | (with_reducible refine Below.alloc ?_ ?_ _) | (with_reducible refine Below.setCell ?_ ?_ _) | (with_reducible refine Below.drew ?_) | (refine Below.trans ?_ (Below.mono (by with_reducible assumption) ?_)) | go_size))
  case round =>
    obtain ⟨i, rfl, hi, HRow, HB⟩ := hrel
    by_cases hlt : i < n
    · obtain ⟨b, off, rfl, hb, hc⟩ := HR.out.at1 (i := i) (by rw [HN.out]; exact hlt)
      have hg : xs.getD i 0 = (xs[i]'(by rw [HN.out]; exact hlt)) := by rw [List.getD_eq_getElem?_getD, List.getElem?_eq_getElem (by rw [HN.out]; exact hlt)]; rfl
      have hc1 : wr.cell? ⟨b, off + i, none⟩ = some (.int .i64 (xs[i]'(by rw [HN.out]; exact hlt))) := (HB.out.cell (p := ⟨b, off + i, none⟩) hb).trans hc
      rw [← hg] at hc1
      have hc2 := HRow.out.cell hlt
      have hf2 := HRow.out.frozen i
      simp only [Nat.lt_irrefl, if_false] at hc2
      clear hc hmk hg
      generalize hx : xs.getD i 0 = x at hc1
      have HX := Lib.hid hx; clear hx
      go_wp2
      go_roundw
      case rel =>
        refine ⟨i + 1, by go_num, by omega, ?_, ?_⟩
        · unfold Hid
          refine (HRow.out.set i _).congr (fun j hj => ?_)
          by_cases hji : j = i
          · subst hji; rw [if_pos rfl, if_pos (by omega), HX.out]; rfl
          · rw [if_neg hji]
            by_cases hj2 : j < i
            · rw [if_pos hj2, if_pos (by omega)]
            · rw [if_neg hj2, if_neg (by omega)]
        · unfold Hid; exact HB.out.setCell (Nat.le_refl _) _
      case measure => simp [intOf]; omega
    · clear hmk
      go_wp2
      go_ret
      refine ⟨_, rfl, Res.of_row (Nat.le_refl _) HRow.out HN.out.symm (by rw [HN.out]; omega) (fun j x hx k hk => ?_), HB.out⟩
      obtain ⟨hj, e⟩ := getElem?_of_lt hx
      obtain rfl : k = 0 := by omega
      rw [Nat.mul_one, Nat.add_zero, if_pos (by rw [← HN.out] at hlt; omega), List.getD_eq_getElem?_getD, hx]
      rfl
theorem eqIntS_any (A B : Option Addr) (c d : Nat) (xs : List Int) (w : World) (hA : Reads 1 intC w w.heap.size A xs) (hB : Reads 1 intC w w.heap.size B xs) (hl : xs.length ≤ 1048576) :
    Calls Try.prog 14 #[.slice A xs.length c, .slice B xs.length d] w fun e w' => e = .returned (.bool true) ∧ Below w.heap.size w w' := by
  have HA := Lib.hid hA; clear hA
  have HB := Lib.hid hB; clear hB
  generalize hn : xs.length = n at hl ⊢
  have HN := Lib.hid hn; clear hn
  have hne : ((n : Int) != (n : Int)) = false := by simp
  go_enter Try.func14, Try.ntmps14
  go_wp2_with fail
  go_loopw [5] (fun t wr => ∃ i : Nat, t = .int .i64 i ∧ i ≤ n ∧ Hid (∃ m, wr = w.drewN m)) (fun t _ => n - (intOf t).toNat)
  case atStart => exact ⟨0, rfl, Nat.zero_le _, ⟨0, rfl⟩⟩
  case round =>
    obtain ⟨i, rfl, hi, HW⟩ := hrel
    obtain ⟨m, rfl⟩ := HW.out
    clear HW
    by_cases hlt : i < n
    · have hx : i < xs.length := by rw [HN.out]; exact hlt
      obtain ⟨b, off, rfl, _, hc⟩ := HA.out.at1 hx
      obtain ⟨b', off', rfl, _, hc'⟩ := HB.out.at1 hx
      have hc1 : w.cell? ⟨b, off + i, none⟩ = some (.int .i64 xs[i]) := hc
      have hc2 : w.cell? ⟨b', off' + i, none⟩ = some (.int .i64 xs[i]) := hc'
      clear hc hc'
      generalize xs[i] = x at hc1 hc2
      have hxx : (x != x) = false := by simp
      have hi1 : (i : Int) < (n : Int) := by omega
      have hi0 : (0 : Int) ≤ (i : Int) := by omega
      go_wp2_with fail
      go_quiet (fail)
      go_wp2_with fail
      go_roundw
      case rel => exact ⟨i + 1, by go_num, by omega, ⟨_, rfl⟩⟩
      case measure => simp [intOf]; omega
    · go_wp2
      go_ret
      exact ⟨rfl, below_drewN' (Below.refl _ _) _⟩
end Go.Proofs.Ytdfgdeccejcpfaa
