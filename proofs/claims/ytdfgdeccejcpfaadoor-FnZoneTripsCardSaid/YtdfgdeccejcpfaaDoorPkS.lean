/- A pick of the reader, with the word that it makes no memory. -/
import Derived.Test.YtdfgdeccejcpfaaDoorDrA
namespace Go.Proofs.YtdfgdeccejcpfaaDoor
open Go.RowKit Go.Deep
set_option linter.unusedSimpArgs false
set_option linter.unusedVariables false
def PickQ (T : TypeId) (g : Nat) (P n : Int) (w : World) (e : Ending) (w' : World) : Prop := PickP T g P n w e w' ∧ w'.heap.size = w.heap.size
set_option maxHeartbeats 4000000 in
theorem pick_same (g : Nat) (P n : Int) (w : World) (hr : RdOk 83 w g P) (hP : P ≤ 1000000) (hn : n ≤ 1000000) :
    Calls Tryd.prog 33 #[.pointer (some ⟨g, 0, none⟩), .int .i64 n] w (PickQ 83 g P n w) := by
  obtain ⟨A, c, p, bs, hk, hp0, hp1, hl, hb, hR⟩ := hr
  have HB := Lib.hid hb; clear hb
  have HR := Lib.hid hR; clear hR
  have HK := Lib.hid hk
  have c0 := hk.cell
  have f0 := hk.frozen
  have hlt := hk.lt
  have hfin : Hid (∀ v : Int, 0 ≤ v → (v = 0 ∨ v < n) → ∀ k, PickQ 83 g P n w (.returned (.int .i64 v)) ((w.setCell ⟨g, 1, none⟩ (.int .i64 (p + 1))).drewN k)) := by
    intro v h0 hv k
    refine ⟨⟨v, rfl, h0, hv, ⟨A, c, p + 1, bs, ?_, by omega, by omega, hl, HB.out, ?_⟩, ?_⟩, by simp [World.drewN]⟩
    · have := (HK.out.set 1 (.int .i64 (p + 1))).drewN k; simpa using this
    · exact HR.out.keep fun b o hlt => World.cell?_setCell_far _ ⟨g, 1, none⟩ ⟨b, o, none⟩ _ (by simp; omega)
    · exact ((Chg.refl g w).set _).drewN
  have HF := hfin; clear hfin hk
  generalize hm : bs.length = m at hl c0
  have HM := Lib.hid hm; clear hm
  by_cases h1 : 1 ≤ n
  · by_cases hm0 : m = 0
    · have hb0 : ((m : Int) == 0) = true := by simp [hm0]
      have hb1 : (m == 0) = true := by simp [hm0]
      clear hm0
      go_enter Tryd.func33, Tryd.ntmps33
      go_wp2_with fail
      go_ret
      exact HF.out 0 (by omega) (.inl rfl) 0
    · have hb0 : ((m : Int) == 0) = false := by simp [hm0]
      have hb1 : (m == 0) = false := by simp [hm0]
      have hm1 : 1 ≤ m := by omega
      clear hm0
      by_cases hpm : p < (m : Int)
      · obtain ⟨pn, rfl⟩ := Int.eq_ofNat_of_zero_le hp0
        have hx : pn < bs.length := by rw [HM.out]; omega
        obtain ⟨b, off, rfl, hbg, hc⟩ := HR.out.at1 hx
        have hu := HB.out bs[pn] (List.getElem_mem hx)
        have hc1 : w.cell? ⟨b, off + pn, none⟩ = some (.int .u8 bs[pn]) := hc
        unfold U8 at hu
        obtain ⟨hu0, hu1⟩ := hu
        clear hc
        generalize bs[pn] = x at hc1 hu0 hu1
        have hbne : ¬ g = b := by omega
        have hbne2 : ¬ b = g := by omega
        go_enter Tryd.func33, Tryd.ntmps33
        go_wp2_with fail
        go_ret
        refine HF.out _ ?_ ?_ 0
        · exact Int.emod_nonneg _ (by omega)
        · exact .inr (Int.emod_lt_of_pos _ (by omega))
      · have hpm' : (m : Int) ≤ p := by omega
        have hmp : 0 < (m : Int) := by omega
        obtain ⟨i1, hi1⟩ := Int.eq_ofNat_of_zero_le (Int.emod_nonneg p (by omega : (m : Int) ≠ 0))
        obtain ⟨i2, hi2⟩ := Int.eq_ofNat_of_zero_le (Int.emod_nonneg (p * 7 + 3) (by omega : (m : Int) ≠ 0))
        have hl1 : i1 < m := by have := Int.emod_lt_of_pos p hmp; omega
        have hl2 : i2 < m := by have := Int.emod_lt_of_pos (p * 7 + 3) hmp; omega
        have m1 : p.tmod (m : Int) = (i1 : Int) := by rw [Int.tmod_eq_emod_of_nonneg hp0]; exact hi1
        have m2 : (p * 7 + 3).tmod (m : Int) = (i2 : Int) := by rw [Int.tmod_eq_emod_of_nonneg (by omega)]; exact hi2
        have hq0 : 0 ≤ p / (m : Int) := Int.ediv_nonneg hp0 (by omega)
        have hq1 : p / (m : Int) ≤ p := Int.ediv_le_self _ hp0
        have m3 : p.tdiv (m : Int) = p / (m : Int) := Int.tdiv_eq_ediv_of_nonneg hp0
        have hx1 : i1 < bs.length := by rw [HM.out]; exact hl1
        have hx2 : i2 < bs.length := by rw [HM.out]; exact hl2
        obtain ⟨b, off, rfl, hbg, hc⟩ := HR.out.at1 hx1
        obtain ⟨b', off', e, _, hc'⟩ := HR.out.at1 hx2
        injection e with e; injection e with e1 e2
        subst e1 e2
        have hu := HB.out bs[i1] (List.getElem_mem hx1)
        have hu' := HB.out bs[i2] (List.getElem_mem hx2)
        have hc1 : w.cell? ⟨b, off + i1, none⟩ = some (.int .u8 bs[i1]) := hc
        have hc2 : w.cell? ⟨b, off + i2, none⟩ = some (.int .u8 bs[i2]) := hc'
        unfold U8 at hu hu'
        obtain ⟨hu0, hu1⟩ := hu
        obtain ⟨hv0, hv1⟩ := hu'
        clear hc hc' hi1 hi2
        generalize bs[i1] = x at hc1 hu0 hu1
        generalize bs[i2] = y at hc2 hv0 hv1
        generalize p / (m : Int) = q at hq0 hq1 m3
        have hbne : ¬ g = b := by omega
        have hbne2 : ¬ b = g := by omega
        have hi10 : (0 : Int) ≤ (i1 : Int) := by omega
        have hi11 : (i1 : Int) < (m : Int) := by omega
        have hi20 : (0 : Int) ≤ (i2 : Int) := by omega
        have hi21 : (i2 : Int) < (m : Int) := by omega
        have e1 : IntKind.i64.wrap (p * 7) = p * 7 := IntWalk.i64_in _ (by omega)
        have e2 : IntKind.i64.wrap (p * 7 + 3) = p * 7 + 3 := IntWalk.i64_in _ (by omega)
        have e3 : IntKind.i64.wrap x = x := IntWalk.i64_in _ (by omega)
        have e4 : IntKind.i64.wrap y = y := IntWalk.i64_in _ (by omega)
        have e5 : IntKind.i64.wrap (x * 131) = x * 131 := IntWalk.i64_in _ (by omega)
        have e6 : IntKind.i64.wrap (y * 1117) = y * 1117 := IntWalk.i64_in _ (by omega)
        have e7 : IntKind.i64.wrap (x * 131 + y * 1117) = x * 131 + y * 1117 := IntWalk.i64_in _ (by omega)
        have e8 : IntKind.i64.wrap (p * 29) = p * 29 := IntWalk.i64_in _ (by omega)
        have e9 : IntKind.i64.wrap (x * 131 + y * 1117 + p * 29) = x * 131 + y * 1117 + p * 29 := IntWalk.i64_in _ (by omega)
        have e10 : IntKind.i64.wrap q = q := IntWalk.i64_in _ (by omega)
        have e11 : IntKind.i64.wrap (q * 53) = q * 53 := IntWalk.i64_in _ (by omega)
        have e12 : IntKind.i64.wrap (x * 131 + y * 1117 + p * 29 + q * 53) = x * 131 + y * 1117 + p * 29 + q * 53 := IntWalk.i64_in _ (by omega)
        have hz0 : 0 ≤ x * 131 + y * 1117 + p * 29 + q * 53 := by omega
        have hz1 : x * 131 + y * 1117 + p * 29 + q * 53 ≤ 4611686018427387904 := by omega
        go_enter Tryd.func33, Tryd.ntmps33
        go_wp2_with fail
        go_quiet (fail)
        clear e1 e2 e3 e4 e5 e6 e7 e8 e9 e10 e11 e12 m1 m2 m3
        generalize x * 131 + y * 1117 + p * 29 + q * 53 = z at hz0 hz1 ⊢
        have hxz := xor_nn z hz0 hz1
        obtain ⟨hxz0, hxz1⟩ := hxz
        go_wp2_with fail
        go_ret
        refine HF.out _ ?_ ?_ _
        · exact Int.emod_nonneg _ (by omega)
        · exact .inr (Int.emod_lt_of_pos _ (by omega))
  · have h1' : n < 1 := by omega
    go_enter Tryd.func33, Tryd.ntmps33
    go_wp2_with fail
    go_ret
    exact HF.out 0 (by omega) (.inl rfl) 0
end Go.Proofs.YtdfgdeccejcpfaaDoor
