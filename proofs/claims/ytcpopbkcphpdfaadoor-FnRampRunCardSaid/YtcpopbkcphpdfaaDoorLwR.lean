/- Ramps: what the laws say. No program's text is walked here. -/
import Derived.Test.YtcpopbkcphpdfaaDoorLwP
import Derived.Test.YtcpopbkcphpdfaaDoorRmpF
namespace Go.Proofs.YtcpopbkcphpdfaaDoor
open Go.RowKit Go.Deep
set_option linter.unusedSimpArgs false
set_option linter.unusedVariables false

theorem ramp_at {xs : List R4} {rs ys : List Int} (h : RampP xs rs ys) {i : Nat} (hi : i < xs.length) : uAt (rampL xs rs ys) i = rampOne (uAt xs i) (gI rs i) (gI ys i) := by
  have h1 : i < rs.length := by rw [h.2.1]; exact hi
  have h2 : i < ys.length := by rw [h.1.2.1]; exact hi
  have := rampL_get hi h1 h2
  rw [uAt_get hi, gI_get h1, gI_get h2]
  unfold uAt; rw [List.getD_eq_getElem?_getD, this]; rfl
theorem RampP.r {xs : List R4} {rs ys : List Int} (h : RampP xs rs ys) {i : Nat} (hi : i < xs.length) : 0 ≤ gI rs i ∧ gI rs i ≤ 999 := by
  have h1 : i < rs.length := by rw [h.2.1]; exact hi
  rw [gI_get h1]; exact h.2.2 _ (List.getElem_mem h1)
theorem RampP.len {xs : List R4} {rs ys : List Int} (h : RampP xs rs ys) : (rampL xs rs ys).length = xs.length := rampL_len h.2.1 h.1.2.1
/-- What was given can be given again. -/
theorem RampP.outs {xs : List R4} {rs ys : List Int} (h : RampP xs rs ys) : OutsP (rampL xs rs ys) ys := by
  refine OutsP.mk' h.unis (by rw [h.len]; exact h.1.2.1) fun k hk => ?_
  rw [h.len] at hk
  have h1 := h.1.at hk; have h2 := h.r hk
  rw [ramp_at h hk]; unfold rampOne; simp only; omega
theorem rampOut_t {xs : List R4} {rs ys : List Int} (h : RampP xs rs ys) : rampOut xs rs ys = rampL xs rs ys := by unfold rampOut; rw [if_pos (rampB_t.2 h)]
theorem rampOut_f {xs : List R4} {rs ys : List Int} (h : ¬ RampP xs rs ys) : rampOut xs rs ys = [] := by unfold rampOut; rw [if_neg (fun hh => h (rampB_t.1 hh))]
theorem rampN_t {xs : List R4} {rs ys : List Int} {L : Int} (h : RampP xs rs ys) (h0 : 1 ≤ xs.length) : rampN xs rs ys L = dispO (rampL xs rs ys) L := by unfold rampN; rw [if_pos ⟨rampB_t.2 h, by omega⟩]
theorem rampN_f {xs : List R4} {rs ys : List Int} {L : Int} (h : ¬ RampP xs rs ys) : rampN xs rs ys L = none := by unfold rampN; rw [if_neg (fun hh => h (rampB_t.1 hh.1))]
/-- With no ramp. -/
theorem ramp_zero {xs : List R4} {rs ys : List Int} (h : RampP xs rs ys) : RampP xs (List.replicate xs.length 0) ys ∧ ∀ i, i < xs.length → (uAt (rampL xs (List.replicate xs.length 0) ys) i).a = gI ys i ∧ (uAt (rampL xs (List.replicate xs.length 0) ys) i).b = gI ys i := by
  have hp : RampP xs (List.replicate xs.length 0) ys := ⟨h.1, by simp, fun r hr => by have := (List.mem_replicate.1 hr).2; omega⟩
  refine ⟨hp, fun i hi => ?_⟩
  rw [ramp_at hp hi]
  have h1 := h.1.at hi
  have h2 : gI (List.replicate xs.length 0) i = 0 := by rw [gI_get (by simpa using hi)]; simp
  unfold rampOne; simp only; rw [h2]; omega
theorem outs_sums {xs : List R4} {ys : List Int} (h : OutsP xs ys) : sumA xs ≤ sumI ys ∧ sumI ys ≤ sumB xs := by
  obtain ⟨zs, h1, _⟩ := any_cost h
  obtain ⟨_, h2, h3, _⟩ := dispO_some h1
  exact ⟨h2, h3⟩
theorem dispO_is {xs : List R4} {L : Int} (h : UnisP xs) : (dispO xs L).isSome = decide (sumA xs ≤ L ∧ L ≤ sumB xs) := by
  by_cases hc : sumA xs ≤ L ∧ L ≤ sumB xs
  · rw [dispO_mk h hc.1 hc.2]; simp [hc]
  · rw [dispO_mkn (fun hh => hc hh.2)]; simp only [Option.isSome_none]; exact (decide_eq_false hc).symm
/-- The range of loads. -/
theorem range_law {xs : List R4} {rs ys : List Int} (h : RampP xs rs ys) (h0 : 1 ≤ xs.length) : ∃ lo hi : Int, rngLo (rampOut xs rs ys) = lo ∧ rngHi (rampOut xs rs ys) = hi ∧ 0 ≤ lo ∧ lo ≤ sumI ys ∧ sumI ys ≤ hi ∧ hi ≤ 5994 ∧
    (rampN xs rs ys lo).isSome = true ∧ (rampN xs rs ys hi).isSome = true ∧ (rampN xs rs ys (sumI ys)).isSome = true ∧ (rampN xs rs ys (lo - 1)).isSome = false ∧ (rampN xs rs ys (hi + 1)).isSome = false := by
  have hs := outs_sums h.outs
  have hb := h.unis.sums
  refine ⟨_, _, rfl, rfl, ?_⟩
  have e : ¬ (rampL xs rs ys).length = 0 := by rw [h.len]; omega
  rw [rampOut_t h]
  unfold rngLo rngHi
  rw [if_neg e, if_neg e]
  simp only [rampN_t h h0, dispO_is h.unis, decide_eq_true_eq, decide_eq_false_iff_not]
  omega
/-- The next hour. -/
theorem next_hour {xs : List R4} {rs ys zs : List Int} {L : Int} (h0 : 1 ≤ xs.length) (h : rampN xs rs ys L = some zs) :
    RampP xs rs ys ∧ zs.length = xs.length ∧ OutsP xs zs ∧ sumI zs = L ∧ (∀ i, i < xs.length → gI zs i - gI ys i ≤ gI rs i ∧ gI ys i - gI zs i ≤ gI rs i) ∧ (rampN xs rs zs L).isSome = true := by
  obtain ⟨hb, _, hd⟩ := rampN_some h
  have hp := rampB_t.1 hb
  obtain ⟨ho, hs⟩ := dispO_outs hd
  have hl : zs.length = xs.length := by rw [ho.2.1, hp.len]
  have hat : ∀ i, i < xs.length → max (uAt xs i).a (gI ys i - gI rs i) ≤ gI zs i ∧ gI zs i ≤ min (uAt xs i).b (gI ys i + gI rs i) := fun i hi => by
    have := ho.at (k := i) (by rw [hp.len]; exact hi)
    rw [ramp_at hp hi] at this; exact this
  have hox : OutsP xs zs := OutsP.mk' hp.1.1 hl fun k hk => by have := hat k hk; omega
  have hp2 : RampP xs rs zs := ⟨hox, hp.2⟩
  refine ⟨hp, hl, hox, hs, fun i hi => by have := hat i hi; omega, ?_⟩
  rw [rampN_t hp2 h0, dispO_is hp2.unis]
  have := outs_sums hp2.outs
  simp; omega
/-- Hours in two parts. -/
theorem rrun_parts (xs : List R4) (rs : List Int) : ∀ (ls ms ys : List Int), ((rrun xs rs ls ys).2 < ls.length → rrun xs rs (ls ++ ms) ys = rrun xs rs ls ys) ∧
    ((rrun xs rs ls ys).2 = ls.length → rrun xs rs (ls ++ ms) ys = ((rrun xs rs ms (rrun xs rs ls ys).1).1, ls.length + (rrun xs rs ms (rrun xs rs ls ys).1).2))
  | [], ms, ys => ⟨fun h => by simp [rrun] at h, fun _ => by simp [rrun]⟩
  | l :: ls, ms, ys => by
    have ih := fun zs => rrun_parts xs rs ls ms zs
    simp only [List.cons_append, rrun]
    cases rampN xs rs ys l with
    | none => exact ⟨fun _ => rfl, fun h => by simp at h⟩
    | some zs =>
      simp only [List.length_cons]
      refine ⟨fun h => ?_, fun h => ?_⟩
      · rw [(ih zs).1 (by omega)]
      · rw [(ih zs).2 (by omega)]
        simp only [Prod.mk.injEq, true_and]; omega
end Go.Proofs.YtcpopbkcphpdfaaDoor
