/- Small functions of the laws: are two lists equal, sums, counts. -/
import Derived.Test.YtcpopbkcphpdfaaDoorProg
import Derived.Test.YtcpopbkcphpdfaaDoorRk
namespace Go.Proofs.YtcpopbkcphpdfaaDoor
open Go.RowKit Go.ChangeShapes Go.WideShapes Go.Deep
set_option linter.unusedSimpArgs false
set_option linter.unusedVariables false
theorem sameBools_any (A B : Option Addr) (c d : Nat) (xs : List Bool) (w : World) (hA : Reads 1 boolC w w.heap.size A xs) (hB : Reads 1 boolC w w.heap.size B xs) (hl : xs.length ≤ 1048576) :
    Calls Tryd.prog 55 #[.slice A xs.length c, .slice B xs.length d] w fun e w' => e = .returned (.bool true) ∧ Below w.heap.size w w' := by
  have HA := Lib.hid hA; clear hA
  have HB := Lib.hid hB; clear hB
  generalize hn : xs.length = n at hl ⊢
  have HN := Lib.hid hn; clear hn
  have hne : ((n : Int) != (n : Int)) = false := by simp
  go_enter Tryd.func55, Tryd.ntmps55
  go_wp2_with fail
  go_loopw [5] (fun t wr => ∃ i : Nat, t = .int .i64 i ∧ i ≤ n ∧ Hid (∃ m, wr = w.drewN m)) (fun t _ => n - (intOf t).toNat)
  case atStart => exact ⟨0, rfl, Nat.zero_le _, ⟨0, rfl⟩⟩
  case round =>
    obtain ⟨i, rfl, hi, HW⟩ := hrel
    obtain ⟨m, rfl⟩ := HW.out
    clear HW
    by_cases hlt : i < n
    · have hx : i < xs.length := by rw [HN.out]; exact hlt
      obtain ⟨b, off, rfl, _, hc⟩ := HA.out.at1 hx
      obtain ⟨b', off', rfl, _, hc'⟩ := HB.out.at1 hx
      have hc1 : w.cell? ⟨b, off + i, none⟩ = some (.bool xs[i]) := hc
      have hc2 : w.cell? ⟨b', off' + i, none⟩ = some (.bool xs[i]) := hc'
      clear hc hc'
      generalize xs[i] = x at hc1 hc2
      have hxx : (x != x) = false := by simp
      have hi1 : (i : Int) < (n : Int) := by omega
      have hi0 : (0 : Int) ≤ (i : Int) := by omega
      go_wp2_with fail
      go_quiet (fail)
      go_wp2_with fail
      go_roundw
      case rel => exact ⟨i + 1, by go_num, by omega, ⟨_, rfl⟩⟩
      case measure => simp [intOf]; omega
    · go_wp2
      go_ret
      exact ⟨rfl, below_drewN' (Below.refl _ _) _⟩
theorem sameInts_any (A B : Option Addr) (c d : Nat) (xs : List Int) (w : World) (hA : Reads 1 intC w w.heap.size A xs) (hB : Reads 1 intC w w.heap.size B xs) (hl : xs.length ≤ 1048576) :
    Calls Tryd.prog 35 #[.slice A xs.length c, .slice B xs.length d] w fun e w' => e = .returned (.bool true) ∧ Below w.heap.size w w' := by
  have HA := Lib.hid hA; clear hA
  have HB := Lib.hid hB; clear hB
  generalize hn : xs.length = n at hl ⊢
  have HN := Lib.hid hn; clear hn
  have hne : ((n : Int) != (n : Int)) = false := by simp
  go_enter Tryd.func35, Tryd.ntmps35
  go_wp2_with fail
  go_loopw [5] (fun t wr => ∃ i : Nat, t = .int .i64 i ∧ i ≤ n ∧ Hid (∃ m, wr = w.drewN m)) (fun t _ => n - (intOf t).toNat)
  case atStart => exact ⟨0, rfl, Nat.zero_le _, ⟨0, rfl⟩⟩
  case round =>
    obtain ⟨i, rfl, hi, HW⟩ := hrel
    obtain ⟨m, rfl⟩ := HW.out
    clear HW
    by_cases hlt : i < n
    · have hx : i < xs.length := by rw [HN.out]; exact hlt
      obtain ⟨b, off, rfl, _, hc⟩ := HA.out.at1 hx
      obtain ⟨b', off', rfl, _, hc'⟩ := HB.out.at1 hx
      have hc1 : w.cell? ⟨b, off + i, none⟩ = some (.int .i64 xs[i]) := hc
      have hc2 : w.cell? ⟨b', off' + i, none⟩ = some (.int .i64 xs[i]) := hc'
      clear hc hc'
      generalize xs[i] = x at hc1 hc2
      have hxx : (x != x) = false := by simp
      have hi1 : (i : Int) < (n : Int) := by omega
      have hi0 : (0 : Int) ≤ (i : Int) := by omega
      go_wp2_with fail
      go_quiet (fail)
      go_wp2_with fail
      go_roundw
      case rel => exact ⟨i + 1, by go_num, by omega, ⟨_, rfl⟩⟩
      case measure => simp [intOf]; omega
    · go_wp2
      go_ret
      exact ⟨rfl, below_drewN' (Below.refl _ _) _⟩
theorem count_any (A : Option Addr) (c : Nat) (xs : List Bool) (w : World) (hA : Reads 1 boolC w w.heap.size A xs) (hl : xs.length ≤ 1048576) :
    Calls Tryd.prog 57 #[.slice A xs.length c] w fun e w' => e = .returned (.int .i64 ((xs.filter id).length : Nat)) ∧ Below w.heap.size w w' := by
  have HA := Lib.hid hA; clear hA
  generalize hn : xs.length = n at hl ⊢
  have HN := Lib.hid hn; clear hn
  go_enter Tryd.func57, Tryd.ntmps57
  go_wp2_with fail
  go_loopw [3, 4] (fun s t wr => ∃ i q : Nat, t = .int .i64 i ∧ i ≤ n ∧ s = .int .i64 q ∧ q ≤ i ∧ Hid (q = ((xs.take i).filter id).length) ∧ wr = w) (fun _ t _ => n - (intOf t).toNat)
  case atStart => exact ⟨0, 0, rfl, Nat.zero_le _, rfl, Nat.zero_le _, by simp [Hid], rfl⟩
  case round =>
    obtain ⟨i, q, rfl, hi, rfl, hq, HQ, rfl⟩ := hrel
    by_cases hlt : i < n
    · have hx : i < xs.length := by rw [HN.out]; exact hlt
      obtain ⟨b, off, rfl, _, hc⟩ := HA.out.at1 hx
      have hc1 : wr.cell? ⟨b, off + i, none⟩ = some (.bool xs[i]) := hc
      have hs : ((xs.take (i + 1)).filter id).length = ((xs.take i).filter id).length + (if xs[i] = true then 1 else 0) := by
        rw [List.take_succ_eq_append_getElem hx, List.filter_append, List.length_append]
        cases xs[i] <;> simp
      rw [← HQ.out] at hs
      have HS := Lib.hid hs; clear hc hs
      generalize xs[i] = x at hc1 HS
      cases x with
      | true =>
        go_wp2_with fail
        refine ⟨⟨i + 1, q + 1, by go_num, by omega, by go_num, by omega, by rw [HS.out]; rfl, by first | rfl | trivial⟩, by simp [intOf]; omega⟩
      | false =>
        go_wp2_with fail
        refine ⟨⟨i + 1, q, by go_num, by omega, rfl, by omega, by rw [HS.out]; rfl, by first | rfl | trivial⟩, by simp [intOf]; omega⟩
    · go_wp2_with fail
      go_ret
      have hh := HQ.out
      rw [List.take_of_length_le (by rw [HN.out]; omega)] at hh
      exact ⟨by rw [hh]; rfl, Below.refl _ _⟩
def sumZ : List Int → Int
  | [] => 0
  | x :: xs => x + sumZ xs
theorem sumZ_append (a b : List Int) : sumZ (a ++ b) = sumZ a + sumZ b := by
  induction a with
  | nil => simp [sumZ]
  | cons x a ih => simp only [List.cons_append, sumZ, ih]; omega
theorem sumOf_any (A : Option Addr) (c : Nat) (xs : List Int) (w : World) (hA : Reads 1 intC w w.heap.size A xs) (hl : xs.length ≤ 1000) (hb : ∀ x ∈ xs, -1000000 ≤ x ∧ x ≤ 1000000) :
    Calls Tryd.prog 36 #[.slice A xs.length c] w fun e w' => e = .returned (.int .i64 (sumZ xs)) ∧ Below w.heap.size w w' := by
  have HA := Lib.hid hA; have HB := Lib.hid hb; clear hA hb
  generalize hn : xs.length = n at hl ⊢
  have HN := Lib.hid hn; clear hn
  go_enter Tryd.func36, Tryd.ntmps36
  go_wp2_with fail
  go_loopw [3, 4] (fun s t wr => ∃ (i : Nat) (q : Int), t = .int .i64 i ∧ i ≤ n ∧ s = .int .i64 q ∧ -1000000 * (i : Int) ≤ q ∧ q ≤ 1000000 * (i : Int) ∧ Hid (q = sumZ (xs.take i)) ∧ wr = w) (fun _ t _ => n - (intOf t).toNat)
  case atStart => exact ⟨0, 0, rfl, Nat.zero_le _, rfl, by omega, by omega, by simp [Hid, sumZ], rfl⟩
  case round =>
    obtain ⟨i, q, rfl, hi, rfl, hq0, hq1, HQ, rfl⟩ := hrel
    by_cases hlt : i < n
    · have hx : i < xs.length := by rw [HN.out]; exact hlt
      obtain ⟨b, off, rfl, _, hc⟩ := HA.out.at1 hx
      have hc1 : wr.cell? ⟨b, off + i, none⟩ = some (.int .i64 xs[i]) := hc
      have hs : sumZ (xs.take (i + 1)) = q + xs[i] := by
        rw [List.take_succ_eq_append_getElem hx, sumZ_append, ← HQ.out]; simp [sumZ]
      have hbx := HB.out xs[i] (List.getElem_mem hx)
      have HS := Lib.hid hs; clear hc hs
      generalize xs[i] = x at hc1 HS hbx
      obtain ⟨hb0, hb1⟩ := hbx
      go_wp2_with fail
      refine ⟨⟨i + 1, q + x, by go_num, by omega, by go_num, by omega, by omega, HS.out.symm, by first | rfl | trivial⟩, by simp [intOf]; omega⟩
    · go_wp2_with fail
      go_ret
      have hh := HQ.out
      rw [List.take_of_length_le (by rw [HN.out]; omega)] at hh
      exact ⟨by rw [hh]; rfl, Below.refl _ _⟩
end Go.Proofs.YtcpopbkcphpdfaaDoor
