/- Has a list a number? -/
import Derived.Test.YtdfgdeccejcpfaaProg
import Derived.Test.YtdfgdeccejcpfaaRk
namespace Go.Proofs.Ytdfgdeccejcpfaa
open Go.RowKit Go.Deep
set_option linter.unusedSimpArgs false
set_option linter.unusedVariables false
theorem l1Has_any (A : Option Addr) (n cp : Nat) (ys : List Int) (k : Int) (w : World) (hn : ys.length = n) (hR : Reads 1 intC w w.heap.size A ys) (hl : n ≤ 1048576) :
    Calls Try.prog 46 #[.slice A n cp, .int .i64 k] w fun e w' => e = .returned (.bool (decide (k ∈ ys))) ∧ w = w' := by
  have HN := Lib.hid hn; clear hn
  have HR := Lib.hid hR; clear hR
  generalize hV : decide (k ∈ ys) = V
  have HV := Lib.hid hV; clear hV
  go_enter Try.func46, Try.ntmps46
  go_wp2_with fail
  go_loopw [5] (fun t wr => ∃ i : Nat, t = .int .i64 i ∧ i ≤ n ∧ Hid (∀ j (hj : j < ys.length), j < i → ¬ ys[j] = k) ∧ w = wr) (fun t _ => n - (intOf t).toNat)
  case atStart => exact ⟨0, rfl, Nat.zero_le _, fun j _ hj => by omega, rfl⟩
  case round =>
    obtain ⟨i, rfl, hi, HA, rfl⟩ := hrel
    by_cases hlt : i < n
    · have hx : i < ys.length := by rw [HN.out]; exact hlt
      obtain ⟨b, off, rfl, hb, hc⟩ := HR.out.at1 hx
      have hc1 : w.cell? ⟨b, off + i, none⟩ = some (.int .i64 ys[i]) := hc
      clear hc
      generalize hyy : ys[i] = y at hc1
      have HY := Lib.hid hyy; clear hyy
      by_cases he : y = k
      · have e1 : (y == k) = true := by simp [he]
        have hm : Hid (k ∈ ys) := by unfold Hid; rw [← he, ← HY.out]; exact List.getElem_mem hx
        clear he
        go_wp2_with fail
        go_ret
        refine ⟨?_, rfl⟩
        rw [← HV.out, decide_eq_true hm.out]; rfl
      · have e1 : (y == k) = false := by simp [he]
        have hm : Hid (∀ j (hj : j < ys.length), j < i + 1 → ¬ ys[j] = k) := by
          intro j hj hji
          by_cases e : j = i
          · subst e; rw [HY.out]; exact he
          · exact HA.out j hj (by omega)
        clear he
        go_wp2_with fail
        exact ⟨⟨i + 1, by go_num, by omega, hm, by first | rfl | trivial⟩, by simp [intOf]; omega⟩
    · go_wp2_with fail
      go_ret
      refine ⟨?_, rfl⟩
      have : ¬ k ∈ ys := fun hk => by
        obtain ⟨j, hj, rfl⟩ := List.mem_iff_getElem.1 hk
        exact HA.out j hj (by have := HN.out; omega) rfl
      rw [← HV.out, decide_eq_false this]; rfl
theorem indexInt_any (A : Option Addr) (n cp : Nat) (ys : List Int) (k : Int) (w : World) (hn : ys.length = n) (hR : Reads 1 intC w w.heap.size A ys) (hl : n ≤ 1048576) :
    Calls Try.prog 74 #[.slice A n cp, .int .i64 k] w fun e w' => ∃ z : Int, e = .returned (.int .i64 z) ∧ (0 ≤ z ↔ k ∈ ys) ∧ w = w' := by
  have HN := Lib.hid hn; clear hn
  have HR := Lib.hid hR; clear hR
  have HNm : Hid (n ≤ 1048576) := hl
  go_enter Try.func74, Try.ntmps74
  go_wp2_with fail
  go_loopw [8] (fun t wr => ∃ i : Nat, t = .int .i64 i ∧ i ≤ n ∧ Hid (∀ j (hj : j < ys.length), j < i → ¬ ys[j] = k) ∧ w = wr) (fun t _ => n - (intOf t).toNat)
  case atStart => exact ⟨0, rfl, Nat.zero_le _, fun j _ hj => by omega, rfl⟩
  case round =>
    obtain ⟨i, rfl, hi, HA, rfl⟩ := hrel
    by_cases hlt : i < n
    · have hx : i < ys.length := by rw [HN.out]; exact hlt
      obtain ⟨b, off, rfl, hb, hc⟩ := HR.out.at1 hx
      have hc1 : w.cell? ⟨b, off + i, none⟩ = some (.int .i64 ys[i]) := hc
      clear hc
      generalize hyy : ys[i] = y at hc1
      have HY := Lib.hid hyy; clear hyy
      by_cases he : y = k
      · have e1 : (k == y) = true := by simp [he]
        have hm : Hid (k ∈ ys) := by unfold Hid; rw [← he, ← HY.out]; exact List.getElem_mem hx
        clear he
        go_wp2_with fail
        go_ret
        exact ⟨_, rfl, ⟨fun _ => hm.out, fun _ => by omega⟩, rfl⟩
      · have e1 : (k == y) = false := by simp; exact fun h => he h.symm
        have hm : Hid (∀ j (hj : j < ys.length), j < i + 1 → ¬ ys[j] = k) := by
          intro j hj hji
          by_cases e : j = i
          · subst e; rw [HY.out]; exact he
          · exact HA.out j hj (by omega)
        clear he
        go_wp2_with fail
        exact ⟨⟨i + 1, by go_num, by omega, hm, by first | rfl | trivial⟩, by simp [intOf]; omega⟩
    · go_wp2_with fail
      go_ret
      have : ¬ k ∈ ys := fun hk => by
        obtain ⟨j, hj, rfl⟩ := List.mem_iff_getElem.1 hk
        exact HA.out j hj (by have := HN.out; omega) rfl
      exact ⟨_, rfl, ⟨fun h => by omega, fun h => absurd h this⟩, rfl⟩
theorem containsInt_any (A : Option Addr) (n cp : Nat) (ys : List Int) (k : Int) (w : World) (hn : ys.length = n) (hR : Reads 1 intC w w.heap.size A ys) (hl : n ≤ 1048576) :
    Calls Try.prog 55 #[.slice A n cp, .int .i64 k] w fun e w' => e = .returned (.bool (decide (k ∈ ys))) ∧ w = w' := by
  have HN := Lib.hid hn; clear hn
  have HR := Lib.hid hR; clear hR
  go_enter Try.func55, Try.ntmps55
  go_wp2_with fail
  refine (indexInt_any A n cp ys k w HN.out HR.out hl).mono ?_
  rintro e w1 ⟨z, rfl, hz, rfl⟩
  have hd : decide (k ∈ ys) = decide (0 ≤ z) := decide_eq_decide.2 hz.symm
  have HD := Lib.hid hd
  clear hz hd
  go_wp2_with fail
  go_ret
  rw [HD.out]
  exact ⟨rfl, rfl⟩
end Go.Proofs.Ytdfgdeccejcpfaa
