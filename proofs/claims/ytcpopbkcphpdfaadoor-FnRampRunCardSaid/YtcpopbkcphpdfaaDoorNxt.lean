/- What the next unit of power costs. -/
import Derived.Test.YtcpopbkcphpdfaaDoorDspI
namespace Go.Proofs.YtcpopbkcphpdfaaDoor
open Go.RowKit Go.Deep
set_option linter.unusedSimpArgs false
set_option linter.unusedVariables false

theorem outCost_ok {xs : List R4} {ys : List Int} (h : OutsP xs ys) : outCost xs ys = costSum xs ys := by unfold outCost; rw [if_pos (outsB_t.2 h)]
theorem costSum_bd : ∀ {xs : List R4} {ys : List Int}, (∀ k, k < xs.length → k < ys.length → 0 ≤ (uAt xs k).c * gI ys k ∧ (uAt xs k).c * gI ys k ≤ 98901) → 0 ≤ costSum xs ys ∧ costSum xs ys ≤ 98901 * xs.length
  | [], _, _ => by simp [costSum]
  | x :: xs, [], _ => by simp [costSum]; omega
  | x :: xs, y :: ys, h => by
    have h0 := h 0 (by simp) (by simp)
    have ht := costSum_bd (xs := xs) (ys := ys) (fun k h1 h2 => by
      have := h (k + 1) (by simpa using h1) (by simpa using h2)
      simpa [uAt, gI] using this)
    simp only [uAt, gI, List.getD_cons_zero] at h0
    simp only [costSum, List.length_cons]
    push_cast
    omega
theorem OutsP.cost {xs : List R4} {ys : List Int} (h : OutsP xs ys) : 0 ≤ costSum xs ys ∧ costSum xs ys ≤ 593406 := by
  have := costSum_bd (xs := xs) (ys := ys) (fun k h1 h2 => by rw [uAt_get h1, gI_get h2]; exact h.prod h1 h2)
  have h6 := h.1.1
  omega

set_option maxHeartbeats 2000000 in
theorem implNextCost_any (A : Option Addr) (c : Nat) (xs : List R4) (L : Int) (hL : I64 L) (w : World) (hR : Reads 4 r4C w w.heap.size A xs) (hl : xs.length ≤ 1048576) :
    Calls Tryd.prog 30 #[.slice A xs.length c, .int .i64 L] w fun e w' => e = .returned (.int .i64 (nextC xs L)) ∧ Below w.heap.size w w' := by
  have HR := Lib.hid hR; clear hR
  have HL := Lib.hid hL; clear hL
  have hV := nextC_eq xs L
  generalize hN : nextC xs L = V at hV ⊢
  clear hN
  have HV := Lib.hid hV; clear hV
  cases h1 : dispO xs L with
  | none =>
    have hd := implDispatch_any A c xs L HL.out w HR.out hl
    rw [h1] at hd
    have HD := Lib.hid hd; clear hd
    have hV := HV.out
    rw [h1] at hV
    simp only at hV
    subst hV
    clear h1 HV
    go_enter Tryd.func30, Tryd.ntmps30
    go_wp2_with fail
    refine HD.out.mono ?_
    rintro e w1 ⟨v1, rfl, hr1, hb1⟩
    obtain ⟨B1, d1, rfl, _⟩ := hr1
    go_wp2
    go_ret
    exact ⟨rfl, hb1⟩
  | some ys =>
    have hd := implDispatch_any A c xs L HL.out w HR.out hl
    rw [h1] at hd
    have HD := Lib.hid hd; clear hd
    have ho := dispO_some h1
    have hsm := ho.1.sums
    have hL0 : 0 ≤ L := by omega
    have hL1 : L ≤ 5994 := by omega
    have hL2 : I64 (L + 1) := by unfold I64; omega
    have HD2 := Lib.hid (fun W hR => implDispatch_any A c xs (L + 1) hL2 W hR hl)
    have hv := HV.out
    rw [h1] at hv
    have hoy := (dispO_outs h1).1
    have HOY := Lib.hid hoy
    clear h1 hL2 ho hsm hoy HV
    cases h2 : dispO xs (L + 1) with
    | none =>
      rw [h2] at HD2 hv
      simp only at hv
      subst hv
      clear h2
      go_enter Tryd.func30, Tryd.ntmps30
      go_wp2_with fail
      refine HD.out.mono ?_
      rintro e w1 ⟨v1, rfl, hr1, hb1⟩
      obtain ⟨B1, d1, rfl, _⟩ := hr1
      go_wp2_with fail
      refine (HD2.out _ ((HR.out.below hb1 (Nat.le_refl _)).more hb1.size)).mono ?_
      rintro e w2 ⟨v2, rfl, hr2, hb2⟩
      obtain ⟨B2, d2, rfl, _⟩ := hr2
      go_wp2
      go_ret
      exact ⟨rfl, hb1.trans (hb2.mono hb1.size)⟩
    | some zs =>
      rw [h2] at HD2 hv
      simp only at hv
      have hoz := (dispO_outs h2).1
      have c1 := outCost_ok HOY.out
      have c2 := outCost_ok hoz
      have e1 := HOY.out.cost
      have e2 := hoz.cost
      have l1 : ys.length ≤ 1048576 := by rw [HOY.out.2.1]; exact hl
      have l2 : zs.length ≤ 1048576 := by rw [hoz.2.1]; exact hl
      rw [← c1, ← c2] at hv
      rw [← c1] at e1
      rw [← c2] at e2
      obtain ⟨e1, e1'⟩ := e1
      obtain ⟨e2, e2'⟩ := e2
      subst hv
      clear h2 hoz c1 c2 HOY
      go_enter Tryd.func30, Tryd.ntmps30
      go_wp2_with fail
      refine HD.out.mono ?_
      rintro e w1 ⟨v1, rfl, hr1, hb1⟩
      have HR1 := Lib.hid hr1
      obtain ⟨B1, d1, rfl, _⟩ := hr1
      have HB1 := Lib.hid hb1; clear hb1
      go_wp2_with fail
      refine (HD2.out _ ((HR.out.below HB1.out (Nat.le_refl _)).more HB1.out.size)).mono ?_
      rintro e w2 ⟨v2, rfl, hr2, hb2⟩
      have HR2 := Lib.hid hr2
      obtain ⟨B2, d2, rfl, _⟩ := hr2
      have HR1b := Lib.hid (HR1.out.below hb2)
      have HB2 : Hid (Below w.heap.size w w2) := HB1.out.trans (hb2.mono HB1.out.size)
      clear hb2
      go_wp2_with fail
      refine (implOutputCost_any A B2 c d2 xs zs w2 ((HR.out.below HB2.out (Nat.le_refl _)).more HB2.out.size) HR2.out.reads.1 hl l2).mono ?_
      rintro e w3 ⟨rfl, hb3⟩
      have HR1c := Lib.hid (HR1b.out.below hb3)
      have HB3 : Hid (Below w.heap.size w w3) := HB2.out.trans (hb3.mono HB2.out.size)
      clear hb3
      go_wp2_with fail
      refine (implOutputCost_any A B1 c d1 xs ys w3 ((HR.out.below HB3.out (Nat.le_refl _)).more HB3.out.size) HR1c.out.reads.1 hl l1).mono ?_
      rintro e w4 ⟨rfl, hb4⟩
      have HB4 : Hid (Below w.heap.size w w4) := HB3.out.trans (hb4.mono HB3.out.size)
      clear hb4
      go_wp2
      go_ret
      exact ⟨rfl, HB4.out⟩

set_option maxHeartbeats 2000000 in
theorem specNextCost_any (A : Option Addr) (c : Nat) (xs : List R4) (L : Int) (hL : I64 L) (w : World) (hR : Reads 4 r4C w w.heap.size A xs) (hl : xs.length ≤ 1048576) :
    Calls Tryd.prog 31 #[.slice A xs.length c, .int .i64 L] w fun e w' => e = .returned (.int .i64 (nextC xs L)) ∧ Below w.heap.size w w' := by
  have HR := Lib.hid hR; clear hR
  have hd := specDispatch_any A c xs L hL w HR.out hl
  generalize hN : nextC xs L = V
  unfold nextC at hN
  cases h1 : dispO xs L with
  | none =>
    rw [h1] at hd hN
    simp only at hN
    subst hN
    have HD := Lib.hid hd; clear hd h1
    go_enter Tryd.func31, Tryd.ntmps31
    go_wp2_with fail
    refine HD.out.mono ?_
    rintro e w1 ⟨v1, rfl, hr1, hb1⟩
    obtain ⟨B1, d1, rfl, _⟩ := hr1
    go_wp2
    go_ret
    exact ⟨rfl, hb1⟩
  | some ys =>
    rw [h1] at hd hN
    simp only at hN
    have HD := Lib.hid hd; clear hd
    have hy := (dispO_outs h1).1.2.1
    have HY := Lib.hid hy
    clear hy h1
    rcases nextF_spec xs ys xs.length with ⟨e, _⟩ | ⟨b, e, hb, _, _⟩
    · rw [e, if_pos (by omega)] at hN
      subst hN
      have HE := Lib.hid e; clear e
      go_enter Tryd.func31, Tryd.ntmps31
      go_wp2_with fail
      refine HD.out.mono ?_
      rintro e w1 ⟨v1, rfl, hr1, hb1⟩
      have HR1 := Lib.hid hr1
      obtain ⟨B1, d1, rfl, _⟩ := hr1
      have HB1 := Lib.hid hb1; clear hb1
      go_wp2_with fail
      refine (l20Next_any A B1 c d1 xs ys w1 ((HR.out.below HB1.out (Nat.le_refl _)).more HB1.out.size) HR1.out.reads.1 hl HY.out).mono ?_
      rintro e w2 ⟨rfl, m, rfl⟩
      rw [HE.out]
      go_wp2
      go_ret
      exact ⟨rfl, below_drewN' HB1.out _⟩
    · rw [e, if_neg (by omega), Int.toNat_natCast, uAt_get hb] at hN
      have HE := Lib.hid e; clear e
      obtain ⟨b1, off1, rfl, hbb, u1, u2, hc, u3⟩ := HR.out.at4 hb
      clear u1 u2 u3
      rw [hN] at hc
      clear hN
      have hb1' : (b : Int) < (xs.length : Int) := by omega
      have hb0 : (0 : Int) ≤ (b : Int) := by omega
      go_enter Tryd.func31, Tryd.ntmps31
      go_wp2_with fail
      refine HD.out.mono ?_
      rintro e w1 ⟨v1, rfl, hr1, hb1⟩
      have HR1 := Lib.hid hr1
      obtain ⟨B1, d1, rfl, _⟩ := hr1
      have HB1 := Lib.hid hb1; clear hb1
      have hc1 := (HB1.out.cell (p := ⟨b1, off1 + b * 4 + 2, none⟩) hbb).trans hc
      go_wp2_with fail
      refine (l20Next_any _ B1 c d1 xs ys w1 ((HR.out.below HB1.out (Nat.le_refl _)).more HB1.out.size) HR1.out.reads.1 hl HY.out).mono ?_
      rintro e w2 ⟨rfl, m, rfl⟩
      rw [HE.out]
      go_wp2_with fail
      refine (l20Next_any _ B1 c d1 xs ys (w1.drewN m) ((HR.out.below HB1.out (Nat.le_refl _)).more HB1.out.size) HR1.out.reads.1 hl HY.out).mono ?_
      rintro e w2 ⟨rfl, m2, rfl⟩
      rw [HE.out]
      go_wp2
      go_ret
      exact ⟨rfl, below_drewN' HB1.out _⟩
end Go.Proofs.YtcpopbkcphpdfaaDoor
