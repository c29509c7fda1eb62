/- Which units run, and ramps: what the laws say. No program's text is walked here. -/
import Derived.Test.YtcpopbkcphpdfaaDoorLwP
import Derived.Test.YtcpopbkcphpdfaaDoorComB
namespace Go.Proofs.YtcpopbkcphpdfaaDoor
open Go.RowKit Go.Deep
set_option linter.unusedSimpArgs false
set_option linter.unusedVariables false

def free1 (x : R4) : R4 := ⟨x.a, x.b, x.c, 0⟩
def freeU (xs : List R4) : List R4 := xs.map free1
@[simp] theorem freeU_len (xs : List R4) : (freeU xs).length = xs.length := by simp [freeU]
theorem freeU_at (xs : List R4) (k : Nat) : uAt (freeU xs) k = free1 (uAt xs k) := by
  unfold uAt freeU
  rcases Nat.lt_or_ge k xs.length with h | h
  · simp [List.getD_eq_getElem?_getD, h]
  · simp [List.getD_eq_getElem?_getD, h, free1, z4]
theorem freeU_leasts (xs : List R4) : leasts (freeU xs) = leasts xs := by simp [leasts, freeU, free1, Function.comp_def]
theorem freeU_mosts (xs : List R4) : mosts (freeU xs) = mosts xs := by simp [mosts, freeU, free1, Function.comp_def]
theorem freeU_unis {xs : List R4} (h : UnisP xs) : UnisP (freeU xs) := by
  refine ⟨by simpa using h.1, fun x hx => ?_⟩
  obtain ⟨y, hy, rfl⟩ := List.mem_map.1 hx
  have := h.2 y hy
  unfold UniOk free1 at *; simp only; omega
theorem freeU_dst (xs : List R4) (T : Int) : dst (freeU xs) T = dst xs T := by
  have h1 : keyU (freeU xs) = keyU xs := by funext k; unfold keyU; rw [freeU_at]; rfl
  have h2 : fillS (freeU xs) = fillS xs := by funext s k; unfold fillS; rw [freeU_at]; rfl
  unfold dst ordU fillA
  rw [h1, h2, freeU_leasts, freeU_len]
theorem freeU_disp {xs : List R4} (h : UnisP xs) (L : Int) : dispO (freeU xs) L = dispO xs L := by
  unfold dispO sumA sumB
  rw [freeU_leasts, freeU_mosts, freeU_dst, unisV_t.2 h, unisV_t.2 (freeU_unis h)]
theorem freeU_cost : ∀ (xs : List R4) (ys : List Int), costSum (freeU xs) ys = costSum xs ys
  | [], _ => by simp [freeU, costSum]
  | x :: xs, [] => by simp [freeU, costSum]
  | x :: xs, y :: ys => by
    have := freeU_cost xs ys
    simp only [freeU, List.map_cons, costSum] at this ⊢
    rw [this]; rfl
theorem freeU_run : ∀ (xs : List R4) (on : List Bool), runL (freeU xs) on = freeU (runL xs on)
  | [], _ => by simp [freeU, runL]
  | x :: xs, [] => by simp [freeU, runL]
  | x :: xs, b :: on => by
    have := freeU_run xs on
    simp only [freeU, List.map_cons] at this ⊢
    cases b <;> simp [runL, this]
theorem freeU_fix (xs : List R4) : sumI (fixeds (freeU xs)) = 0 := by
  unfold fixeds freeU
  induction xs with
  | nil => rfl
  | cons x xs ih => simp only [List.map_cons, sumI, free1] at ih ⊢; rw [ih]; rfl
/-- Without Fixed costs. -/
theorem com_law {xs : List R4} {on : List Bool} {L : Int} (h : 0 ≤ comC xs on L) : UnisP xs ∧ on.length = xs.length ∧ comC (freeU xs) on L = comC xs on L - sumI (fixeds (runL xs on)) ∧ sumA (runL xs on) ≤ L ∧ L ≤ sumB (runL xs on) := by
  rcases comC_cases xs on L with h0 | ⟨hu, hm, h1, h2, _⟩
  · omega
  · refine ⟨hu, hm, ?_, h1, h2⟩
    have hd := dispO_mk (runL_unis (on := on) hu) h1 h2
    rw [comC_some hu hm hd]
    have hd2 : dispO (runL (freeU xs) on) L = some (dst (runL xs on) (L - sumA (runL xs on))) := by
      rw [freeU_run, freeU_disp (runL_unis hu)]; exact hd
    rw [comC_some (freeU_unis hu) (by simpa using hm) hd2, freeU_run, freeU_cost, freeU_fix]
    omega
theorem comC_ok {xs : List R4} {on : List Bool} {L : Int} (hu : UnisP xs) (hm : on.length = xs.length) (h1 : sumA (runL xs on) ≤ L) (h2 : L ≤ sumB (runL xs on)) : 0 ≤ comC xs on L := by
  have hd := dispO_mk (runL_unis (on := on) hu) h1 h2
  rw [comC_some hu hm hd]
  have hc := (dispO_outs hd).1.cost
  have hf := sumI_le_takeF (runL_unis (on := on) hu) (runL xs on).length
  rw [List.take_of_length_le (by simp)] at hf
  omega
theorem spr_law (xs : List R4) (on : List Bool) (L : Int) : (sprC xs on L = -1 ∧ comC xs on L = -1) ∨
    (0 ≤ sprC xs on L ∧ sprC xs on L ≤ 5994 ∧ 0 ≤ L ∧ L ≤ 5994 ∧ 0 ≤ comC xs on L ∧ 0 ≤ comC xs on (L + sprC xs on L) ∧ sprC xs on (L + sprC xs on L) = 0 ∧ comC xs on (L + sprC xs on L + 1) = -1) := by
  rcases comC_cases xs on L with h0 | ⟨hu, hm, h1, h2, h3, _⟩
  · left; refine ⟨?_, h0⟩; unfold sprC; rw [if_pos (by omega)]
  · right
    have hs := (runL_unis (on := on) hu).sums
    have e : sprC xs on L = sumB (runL xs on) - L := by unfold sprC; rw [if_neg (by omega)]
    have hc := comC_ok hu hm (L := sumB (runL xs on)) (by omega) (Int.le_refl _)
    rw [e, show L + (sumB (runL xs on) - L) = sumB (runL xs on) from by omega]
    refine ⟨by omega, by omega, by omega, by omega, h3, hc, ?_, ?_⟩
    · unfold sprC; rw [if_neg (by omega)]; omega
    · exact comC_none (dispO_mkn (fun hh => by omega))
end Go.Proofs.YtcpopbkcphpdfaaDoor
