/- Dispatch: the reference's next unit, the comparison of the program. -/
import Derived.Test.YtcpopbkcphpdfaaDoorDspQ
import Derived.Test.YtcpopbkcphpdfaaDoorSrtW
import Derived.Test.YtcpopbkcphpdfaaDoorClone
namespace Go.Proofs.YtcpopbkcphpdfaaDoor
open Go.RowKit Go.Deep
set_option linter.unusedSimpArgs false
set_option linter.unusedVariables false

set_option maxHeartbeats 4000000 in
theorem l20Next_any (A B : Option Addr) (c d : Nat) (xs : List R4) (ys : List Int) (w : World) (hR : Reads 4 r4C w w.heap.size A xs) (hS : Reads 1 intC w w.heap.size B ys) (hl : xs.length ≤ 1048576) (hy : ys.length = xs.length) :
    Calls Tryd.prog 68 #[.slice A xs.length c, .slice B ys.length d] w fun e w' => e = .returned (.int .i64 (nextF xs ys xs.length)) ∧ ∃ m, w' = w.drewN m := by
  have HR := Lib.hid hR; clear hR
  have HS := Lib.hid hS; clear hS
  have HY := Lib.hid hy
  generalize hV : nextF xs ys xs.length = V
  have HV := Lib.hid hV; clear hV
  rw [hy]
  generalize hn : xs.length = n at hl hy ⊢
  have HN := Lib.hid hn; clear hn hy
  go_enter Tryd.func68, Tryd.ntmps68
  go_wp2_with fail
  go_loopw [5, 6] (fun t u wr => ∃ (i : Nat) (b : Int), u = .int .i64 i ∧ i ≤ n ∧ t = .int .i64 b ∧ -1 ≤ b ∧ b < (i : Int) ∧ Hid (nextF xs ys i = b) ∧ Hid (∃ m, wr = w.drewN m)) (fun _ u _ => n - (intOf u).toNat)
  case atStart => exact ⟨0, -1, rfl, Nat.zero_le _, rfl, Int.le_refl _, by omega, rfl, ⟨0, rfl⟩⟩
  case round =>
    obtain ⟨i, b, rfl, hi, rfl, hb0, hb1, HB, HW⟩ := hrel
    obtain ⟨m, rfl⟩ := HW.out
    clear HW
    by_cases hlt : i < n
    · have hx : i < xs.length := by rw [HN.out]; exact hlt
      have hyy : i < ys.length := by rw [HY.out]; exact hx
      obtain ⟨b1, off1, rfl, hbb1, u1, hc1, hc2, u2⟩ := HR.out.at4 hx
      clear u1 u2
      obtain ⟨b2, off2, rfl, hbb2, hd'⟩ := HS.out.at1 hyy
      have hd : w.cell? ⟨b2, off2 + i, none⟩ = some (.int .i64 ys[i]) := hd'
      clear hd'
      have HST : Hid (nextF xs ys (i + 1) = if ys[i] < xs[i].b ∧ (b < 0 ∨ xs[i].c < (uAt xs b.toNat).c) then (i : Int) else b) := by
        unfold Hid; simp only [nextF]; rw [HB.out, gI_get hyy, uAt_get hx]
      have hi1 : (i : Int) < (n : Int) := by omega
      have hi0 : (0 : Int) ≤ (i : Int) := by omega
      generalize xs[i] = x at hc1 hc2 HST
      generalize ys[i] = y at hd HST
      by_cases q1 : y < x.b
      · have hq1 : decide (y < x.b) = true := by simp [q1]
        by_cases q2 : b < 0
        · have hq2 : decide (b < 0) = true := by simp [q2]
          go_wp2_with fail
          go_quiet (fail)
          go_wp2_with fail
          exact ⟨⟨i + 1, i, by go_num, by omega, rfl, by omega, by omega, by unfold Hid; rw [HST.out, if_pos ⟨q1, .inl q2⟩], ⟨_, rfl⟩⟩, by simp [intOf]; omega⟩
        · have hq2 : decide (b < 0) = false := by simp; omega
          obtain ⟨bn, rfl⟩ := Int.eq_ofNat_of_zero_le (show 0 ≤ b from by omega)
          have hbx : bn < xs.length := by rw [HN.out]; omega
          obtain ⟨b1', off1', e, u1, u2, u3, hc2b, u4⟩ := HR.out.at4 hbx
          clear u1 u2 u3 u4
          injection e with e; injection e with e1 e2; subst e1 e2
          have HU : Hid (uAt xs (bn : Int).toNat = xs[bn]) := by unfold Hid; rw [Int.toNat_natCast, uAt_get hbx]
          generalize xs[bn] = xb at hc2b HU
          have hbn1 : (bn : Int) < (n : Int) := by omega
          have hbn0 : (0 : Int) ≤ (bn : Int) := by omega
          by_cases q3 : x.c < xb.c
          · have hq3 : decide (x.c < xb.c) = true := by simp [q3]
            go_wp2_with fail
            go_quiet (fail)
            go_wp2_with fail
            exact ⟨⟨i + 1, i, by go_num, by omega, rfl, by omega, by omega, by unfold Hid; rw [HST.out, HU.out, if_pos ⟨q1, .inr q3⟩], ⟨_, rfl⟩⟩, by simp [intOf]; omega⟩
          · have hq3 : decide (x.c < xb.c) = false := by simp; omega
            go_wp2_with fail
            go_quiet (fail)
            go_wp2_with fail
            exact ⟨⟨i + 1, bn, by go_num, by omega, rfl, by omega, by omega, by unfold Hid; rw [HST.out, HU.out, if_neg (fun h => by rcases h.2 with h | h <;> omega)], ⟨_, rfl⟩⟩, by simp [intOf]; omega⟩
      · have hq1 : decide (y < x.b) = false := by simp; omega
        go_wp2_with fail
        go_quiet (fail)
        go_wp2_with fail
        exact ⟨⟨i + 1, b, by go_num, by omega, rfl, by omega, by omega, by unfold Hid; rw [HST.out, if_neg (fun h => by omega)], ⟨_, rfl⟩⟩, by simp [intOf]; omega⟩
    · go_wp2
      go_ret
      obtain rfl : i = n := by omega
      refine ⟨congrArg (fun z => Ending.returned (Value.int .i64 z)) ?_, ⟨_, rfl⟩⟩
      rw [← HV.out, ← HB.out, HN.out]

/-- The program's comparison of two units, by what they cost. -/
theorem dispCmp_any (A : Option Addr) (c : Nat) (xs : List R4) (w : World) (B g : Nat) (hR : Reads 4 r4C w B A xs) (hl : xs.length ≤ 1048576) (gb : Nat) (hbox : Bk w gb 23 #[.slice A xs.length c]) (hB : B ≤ g) (hgb : gb ≠ g) :
    CmpOk 70 (.pointer (some ⟨gb, 0, none⟩)) (keyU xs) xs.length g w := by
  intro a b W ha hb hm
  obtain ⟨b1, off1, rfl, hb1, u1, u2, hc1', u3⟩ := hR.at4 ha
  obtain ⟨b2, off2, e, u4, u5, u6, hc2', u7⟩ := hR.at4 hb
  injection e with e; injection e with e1 e2; subst e1 e2
  have hk : ∀ q o, q ≠ g → W.cell? ⟨q, o, none⟩ = w.cell? ⟨q, o, none⟩ := fun q o hq => World.cell?_of_block (hm.block q (by omega))
  have hc1 := (hk b1 (off1 + a * 4 + 2) (by omega)).trans hc1'
  have hc2 := (hk b1 (off1 + b * 4 + 2) (by omega)).trans hc2'
  have hc3 : ∀ q, W.cell? ⟨gb, q, none⟩ = #[Value.slice (some ⟨b1, off1, none⟩) xs.length c][q]? := fun q => (hk gb q hgb).trans (hbox.cell q)
  unfold keyU
  rw [uAt_get ha, uAt_get hb]
  have ha1 : (a : Int) < (xs.length : Int) := by omega
  have ha0 : (0 : Int) ≤ (a : Int) := by omega
  have hb1' : (b : Int) < (xs.length : Int) := by omega
  have hb0 : (0 : Int) ≤ (b : Int) := by omega
  clear hc1' hc2' hk hm hbox hR u1 u2 u3 u4 u5 u6 u7
  generalize xs[a] = x at hc1 ⊢
  generalize xs[b] = y at hc2 ⊢
  generalize hn : xs.length = n at hl hc3 ha1 hb1'
  clear ha hb hn
  go_enter Tryd.func70, Tryd.ntmps70
  go_wp2_with fail
  go_quiet ((go_at_call 71; exact quietL (compare_any _ _ _)))
  go_wp2_with fail
  go_ret
  exact ⟨rfl, _, rfl⟩
end Go.Proofs.YtcpopbkcphpdfaaDoor
