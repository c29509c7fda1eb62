/- Units: what outputs cost. -/
import Derived.Test.YtcpopbkcphpdfaaDoorUniB
namespace Go.Proofs.YtcpopbkcphpdfaaDoor
open Go.RowKit
set_option linter.unusedSimpArgs false
set_option linter.unusedVariables false

def costSum : List R4 → List Int → Int
  | x :: xs, y :: ys => x.c * y + costSum xs ys
  | _, _ => 0
noncomputable def outCost (xs : List R4) (ys : List Int) : Int := if outsB xs ys = true then costSum xs ys else -1
theorem costSum_step {xs : List R4} {ys : List Int} {i : Nat} (h1 : i < xs.length) (h2 : i < ys.length) : costSum (xs.drop i) (ys.drop i) = xs[i].c * ys[i] + costSum (xs.drop (i + 1)) (ys.drop (i + 1)) := by
  rw [List.drop_eq_getElem_cons h1, List.drop_eq_getElem_cons h2]; rfl
theorem prod_bd {a b : Int} (h1 : 1 ≤ a) (h2 : a ≤ 99) (h3 : 0 ≤ b) (h4 : b ≤ 999) : 0 ≤ a * b ∧ a * b ≤ 98901 := by
  refine ⟨Int.mul_nonneg (by omega) h3, ?_⟩
  have e1 : a * b ≤ 99 * b := Int.mul_le_mul_of_nonneg_right h2 h3
  omega
theorem OutsP.prod {xs : List R4} {ys : List Int} (h : OutsP xs ys) {i : Nat} (h1 : i < xs.length) (h2 : i < ys.length) : 0 ≤ xs[i].c * ys[i] ∧ xs[i].c * ys[i] ≤ 98901 := by
  have hu := h.1.2 _ (List.getElem_mem h1)
  have ho := h.2.2 i h1 h2
  unfold UniOk at hu
  exact prod_bd hu.2.2.2.1 hu.2.2.2.2.1 (by omega) (by omega)

set_option maxHeartbeats 2000000 in
theorem implOutputCost_any (A B : Option Addr) (c d : Nat) (xs : List R4) (ys : List Int) (w : World) (hR : Reads 4 r4C w w.heap.size A xs) (hS : Reads 1 intC w w.heap.size B ys) (hl : xs.length ≤ 1048576) (hl2 : ys.length ≤ 1048576) :
    Calls Tryd.prog 23 #[.slice A xs.length c, .slice B ys.length d] w fun e w' => e = .returned (.int .i64 (outCost xs ys)) ∧ Below w.heap.size w w' := by
  have HR := Lib.hid hR; clear hR
  have HS := Lib.hid hS; clear hS
  generalize hV : outCost xs ys = V
  by_cases ho : outsB xs ys = true
  · have e1 : costSum xs ys = V := by rw [← hV]; unfold outCost; rw [if_pos ho]
    have HV := Lib.hid e1; clear e1 hV
    have HO := Lib.hid (outsB_t.1 ho)
    go_enter Tryd.func23, Tryd.ntmps23
    go_wp2_with fail; ((with_reducible refine (implOutputsValid_any A B c d xs ys w HR.out HS.out hl hl2).mono ?_); rintro e w1 ⟨rfl, hb_1⟩); have hz_1 := hb_1.size; (try simp only [World.size_alloc, World.size_setCell, World.size_drew] at hz_1)
    go_wp2_with fail
    have h6 : xs.length ≤ 6 := HO.out.1.1
    generalize hn : xs.length = n at hl h6 ⊢
    generalize hm : ys.length = m at hl2 ⊢
    have HMN : Hid (m = n) := by unfold Hid; rw [← hn, ← hm]; exact HO.out.2.1
    have HN := Lib.hid hn; clear hn
    have HM2 := Lib.hid hm; clear hm
    go_loopw [5, 14] (fun t u wr => ∃ (i : Nat) (z : Int), u = .int .i64 i ∧ i ≤ n ∧ t = .int .i64 z ∧ 0 ≤ z ∧ z ≤ 98901 * i ∧ Hid (z + costSum (xs.drop i) (ys.drop i) = V) ∧ Hid (Below w.heap.size w wr)) (fun _ u _ => n - (intOf u).toNat)
    case atStart => exact ⟨0, 0, rfl, Nat.zero_le _, rfl, Int.le_refl _, Int.le_refl _, (by unfold Hid; rw [Int.zero_add]; exact HV.out), hb_1⟩
    case round =>
      obtain ⟨i, z, rfl, hi, rfl, hz0, hz1, HA, HB⟩ := hrel
      by_cases hlt : i < n
      · have hx : i < xs.length := by rw [HN.out]; exact hlt
        have hy : i < ys.length := by rw [HM2.out, HMN.out]; exact hlt
        obtain ⟨b, off, rfl, hb, hc0, hc1, hc2, hc3⟩ := HR.out.at4 hx
        have hc0 := (HB.out.cell (p := ⟨b, off + i * 4, none⟩) hb).trans hc0
        have hc1 := (HB.out.cell (p := ⟨b, off + i * 4 + 1, none⟩) hb).trans hc1
        have hc2 := (HB.out.cell (p := ⟨b, off + i * 4 + 2, none⟩) hb).trans hc2
        have hc3 := (HB.out.cell (p := ⟨b, off + i * 4 + 3, none⟩) hb).trans hc3
        obtain ⟨b2, off2, rfl, hb2, hcy⟩ := HS.out.at1 hy
        have hcy : wr.cell? ⟨b2, off2 + i, none⟩ = some (.int .i64 ys[i]) := (HB.out.cell (p := ⟨b2, off2 + i, none⟩) hb2).trans hcy
        have hzw := HB.out.size
        have hbw : b < wr.heap.size := by omega
        have hbw2 : b2 < wr.heap.size := by omega
        have hA := HA.out
        rw [costSum_step hx hy] at hA
        have hpd := HO.out.prod hx hy
        generalize xs[i] = x at hc0 hc1 hc2 hc3 hA hpd
        generalize ys[i] = y at hcy hA hpd
        have HA2 := Lib.hid hA; clear hA
        obtain ⟨hp0, hp1⟩ := hpd
        have hmn := HMN.out
        have him : (i : Int) < (m : Int) := by omega
        have hi0 : (0 : Int) ≤ (i : Int) := by omega
        clear hmn
        have hw1 : IntKind.i64.wrap (x.c * y) = x.c * y := IntWalk.i64_in _ (by omega)
        have hw2 : IntKind.i64.wrap (z + x.c * y) = z + x.c * y := IntWalk.i64_in _ (by omega)
        go_wp2_with fail
        go_quiet (fail)
        clear hw1 hw2
        go_wp2_with fail
        exact ⟨⟨i + 1, z + x.c * y, by go_num, by omega, rfl, by omega, by push_cast; omega, (by have := HA2.out; unfold Hid; omega), below_drewN' (HB.out.alloc (by omega) _) _⟩, by simp [intOf]; omega⟩
      · go_wp2
        go_ret
        have hA := HA.out
        rw [List.drop_of_length_le (by rw [HN.out]; omega)] at hA
        unfold costSum at hA
        exact ⟨congrArg (fun b => Ending.returned (Value.int .i64 b)) (by omega), HB.out⟩
  · have hof : outsB xs ys = false := by simpa using ho
    have e1 : V = -1 := by rw [← hV]; unfold outCost; rw [if_neg ho]
    subst e1
    clear hV ho
    go_enter Tryd.func23, Tryd.ntmps23
    go_wp2_with fail; ((with_reducible refine (implOutputsValid_any A B c d xs ys w HR.out HS.out hl hl2).mono ?_); rintro e w1 ⟨rfl, hb_2⟩); have hz_2 := hb_2.size; (try simp only [World.size_alloc, World.size_setCell, World.size_drew] at hz_2)
    go_wp2_with fail
    go_ret
    exact ⟨rfl, hb_2⟩

set_option maxHeartbeats 2000000 in
theorem specOutputCost_any (A B : Option Addr) (c d : Nat) (xs : List R4) (ys : List Int) (w : World) (hR : Reads 4 r4C w w.heap.size A xs) (hS : Reads 1 intC w w.heap.size B ys) (hl : xs.length ≤ 1048576) (hl2 : ys.length ≤ 1048576) :
    Calls Tryd.prog 24 #[.slice A xs.length c, .slice B ys.length d] w fun e w' => e = .returned (.int .i64 (outCost xs ys)) ∧ Below w.heap.size w w' := by
  have HR := Lib.hid hR; clear hR
  have HS := Lib.hid hS; clear hS
  generalize hV : outCost xs ys = V
  by_cases ho : outsB xs ys = true
  · have e1 : costSum xs ys = V := by rw [← hV]; unfold outCost; rw [if_pos ho]
    have HV := Lib.hid e1; clear e1 hV
    have HO := Lib.hid (outsB_t.1 ho)
    go_enter Tryd.func24, Tryd.ntmps24
    go_wp2_with fail; ((with_reducible refine (specOutputsValid_any A B c d xs ys w HR.out HS.out hl hl2).mono ?_); rintro e w1 ⟨rfl, hb_3⟩); have hz_3 := hb_3.size; (try simp only [World.size_alloc, World.size_setCell, World.size_drew] at hz_3)
    go_wp2_with fail
    have h6 : xs.length ≤ 6 := HO.out.1.1
    generalize hn : xs.length = n at hl h6 ⊢
    generalize hm : ys.length = m at hl2 ⊢
    have HMN : Hid (m = n) := by unfold Hid; rw [← hn, ← hm]; exact HO.out.2.1
    have HN := Lib.hid hn; clear hn
    have HM2 := Lib.hid hm; clear hm
    go_loopw [5, 6] (fun t u wr => ∃ (i : Nat) (z : Int), u = .int .i64 i ∧ i ≤ n ∧ t = .int .i64 z ∧ 0 ≤ z ∧ z ≤ 98901 * i ∧ Hid (z + costSum (xs.drop i) (ys.drop i) = V) ∧ Hid (Below w.heap.size w wr)) (fun _ u _ => n - (intOf u).toNat)
    case atStart => exact ⟨0, 0, rfl, Nat.zero_le _, rfl, Int.le_refl _, Int.le_refl _, (by unfold Hid; rw [Int.zero_add]; exact HV.out), hb_3⟩
    case round =>
      obtain ⟨i, z, rfl, hi, rfl, hz0, hz1, HA, HB⟩ := hrel
      by_cases hlt : i < n
      · have hx : i < xs.length := by rw [HN.out]; exact hlt
        have hy : i < ys.length := by rw [HM2.out, HMN.out]; exact hlt
        obtain ⟨b, off, rfl, hb, hc0, hc1, hc2, hc3⟩ := HR.out.at4 hx
        have hc2 := (HB.out.cell (p := ⟨b, off + i * 4 + 2, none⟩) hb).trans hc2
        obtain ⟨b2, off2, rfl, hb2, hcy⟩ := HS.out.at1 hy
        have hcy : wr.cell? ⟨b2, off2 + i, none⟩ = some (.int .i64 ys[i]) := (HB.out.cell (p := ⟨b2, off2 + i, none⟩) hb2).trans hcy
        have hA := HA.out
        rw [costSum_step hx hy] at hA
        have hpd := HO.out.prod hx hy
        clear hc0 hc1 hc3
        generalize xs[i] = x at hc2 hA hpd
        generalize ys[i] = y at hcy hA hpd
        have HA2 := Lib.hid hA; clear hA
        obtain ⟨hp0, hp1⟩ := hpd
        have hmn := HMN.out
        have him : (i : Int) < (m : Int) := by omega
        have hin : (i : Int) < (n : Int) := by omega
        have hi0 : (0 : Int) ≤ (i : Int) := by omega
        clear hmn
        have hw1 : IntKind.i64.wrap (x.c * y) = x.c * y := IntWalk.i64_in _ (by omega)
        have hw2 : IntKind.i64.wrap (z + x.c * y) = z + x.c * y := IntWalk.i64_in _ (by omega)
        go_wp2_with fail
        go_quiet (fail)
        clear hw1 hw2
        go_wp2_with fail
        exact ⟨⟨i + 1, z + x.c * y, by go_num, by omega, rfl, by omega, by push_cast; omega, (by have := HA2.out; unfold Hid; omega), below_drewN' HB.out _⟩, by simp [intOf]; omega⟩
      · go_wp2
        go_ret
        have hA := HA.out
        rw [List.drop_of_length_le (by rw [HN.out]; omega)] at hA
        unfold costSum at hA
        exact ⟨congrArg (fun b => Ending.returned (Value.int .i64 b)) (by omega), HB.out⟩
  · have hof : outsB xs ys = false := by simpa using ho
    have e1 : V = -1 := by rw [← hV]; unfold outCost; rw [if_neg ho]
    subst e1
    clear hV ho
    go_enter Tryd.func24, Tryd.ntmps24
    go_wp2_with fail; ((with_reducible refine (specOutputsValid_any A B c d xs ys w HR.out HS.out hl hl2).mono ?_); rintro e w1 ⟨rfl, hb_4⟩); have hz_4 := hb_4.size; (try simp only [World.size_alloc, World.size_setCell, World.size_drew] at hz_4)
    go_wp2_with fail
    go_ret
    exact ⟨rfl, hb_4⟩
end Go.Proofs.YtcpopbkcphpdfaaDoor
