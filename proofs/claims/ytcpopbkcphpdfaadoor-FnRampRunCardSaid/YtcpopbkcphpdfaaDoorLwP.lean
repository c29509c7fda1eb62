/- Units: what the laws say of what the functions return. No program's text is walked here. -/
import Derived.Test.YtcpopbkcphpdfaaDoorNxt
namespace Go.Proofs.YtcpopbkcphpdfaaDoor
open Go.RowKit Go.Deep
set_option linter.unusedSimpArgs false
set_option linter.unusedVariables false

theorem OutsP.at {xs : List R4} {ys : List Int} (h : OutsP xs ys) {k : Nat} (hk : k < xs.length) : (uAt xs k).a ≤ gI ys k ∧ gI ys k ≤ (uAt xs k).b := by
  have hk2 : k < ys.length := by rw [h.2.1]; exact hk
  rw [uAt_get hk, gI_get hk2]; exact h.2.2 k hk hk2
theorem OutsP.mk' {xs : List R4} {ys : List Int} (hu : UnisP xs) (hl : ys.length = xs.length) (h : ∀ k, k < xs.length → (uAt xs k).a ≤ gI ys k ∧ gI ys k ≤ (uAt xs k).b) : OutsP xs ys :=
  ⟨hu, hl, fun i h1 h2 => by have := h i h1; rwa [uAt_get h1, gI_get h2] at this⟩
theorem OutsP.set {xs : List R4} {ys : List Int} (h : OutsP xs ys) {k : Nat} (hk : k < xs.length) {v : Int} (h1 : (uAt xs k).a ≤ v) (h2 : v ≤ (uAt xs k).b) : OutsP xs (ys.set k v) := by
  refine OutsP.mk' h.1 (by simpa using h.2.1) fun j hj => ?_
  rw [gI_set (by rw [h.2.1]; exact hk)]
  split
  · rename_i e; subst e; exact ⟨h1, h2⟩
  · exact h.at hj
/-- One output greater than Most. -/
theorem outs_over {xs : List R4} {ys : List Int} (h : OutsP xs ys) {k : Nat} (hk : k < xs.length) : outsB xs (ys.set k ((uAt xs k).b + 1)) = false := by
  refine outsB_f.2 fun h2 => ?_
  have := (h2.at hk).2
  rw [gI_set (by rw [h.2.1]; exact hk), if_pos rfl] at this
  omega
theorem outs_leasts {xs : List R4} (h : UnisP xs) : outsB xs (leasts xs) = true :=
  outsB_t.2 (OutsP.mk' h (by simp) fun k hk => by rw [gI_leasts hk]; have := h.at hk; unfold UniOk at this; omega)
theorem leasts_snoc {xs : List R4} {k : Nat} (hk : k < xs.length) : (leasts xs).take k ++ [(uAt xs k).a] = (leasts xs).take (k + 1) := by
  have : k < (leasts xs).length := by simpa using hk
  rw [List.take_succ_eq_append_getElem this, ← gI_get this, gI_leasts hk]
/-- One more of a unit costs its Cost. -/
theorem cost_step {xs : List R4} {ys : List Int} (h : OutsP xs ys) {k : Nat} (hk : k < xs.length) (hm : gI ys k < (uAt xs k).b) : outCost xs (ys.set k (gI ys k + 1)) = outCost xs ys + (uAt xs k).c := by
  have ha := h.at hk
  rw [outCost_ok h, outCost_ok (h.set hk (by omega) (by omega)), costSum_set h.2.1 hk]
  rw [show gI ys k + 1 - gI ys k = 1 from by omega]; omega
theorem outCost_not {xs : List R4} {ys : List Int} (h : ¬ OutsP xs ys) : outCost xs ys = -1 := by unfold outCost; rw [if_neg (fun hh => h (outsB_t.1 hh))]
theorem outCost_cases (xs : List R4) (ys : List Int) : (outsB xs ys = false ∧ outCost xs ys = -1) ∨ (OutsP xs ys ∧ outsB xs ys = true ∧ 0 ≤ outCost xs ys ∧ outCost xs ys ≤ 593406) := by
  by_cases h : OutsP xs ys
  · have := h.cost; rw [← outCost_ok h] at this; exact .inr ⟨h, outsB_t.2 h, this.1, this.2⟩
  · exact .inl ⟨outsB_f.2 h, outCost_not h⟩
/-- One less here, one more there: as dear at least. -/
def swap (ys : List Int) (a b : Nat) : List Int := (ys.set a (gI ys a - 1)).set b (gI (ys.set a (gI ys a - 1)) b + 1)
theorem swap_cost {xs : List R4} {L : Int} {ys : List Int} (h : dispO xs L = some ys) {a b : Nat} (ha : a < xs.length) (hb : b < xs.length) (ho : outsB xs (swap ys a b) = true) : outCost xs ys ≤ outCost xs (swap ys a b) := by
  obtain ⟨h1, h2⟩ := dispO_outs h
  have h3 := outsB_t.1 ho
  rw [outCost_ok h1, outCost_ok h3]
  refine disp_least h h3 ?_
  unfold swap
  have hl : ys.length = xs.length := h1.2.1
  rw [sumI_set (by simp; omega), sumI_set (by omega)]
  omega
/-- Any outputs that are together the load cost as much at least. -/
theorem any_cost {xs : List R4} {ys : List Int} (h : OutsP xs ys) : ∃ zs, dispO xs (sumI ys) = some zs ∧ outCost xs zs ≤ outCost xs ys := by
  have hs : sumA xs ≤ sumI ys ∧ sumI ys ≤ sumB xs := by
    have key : ∀ {n : Nat}, n ≤ xs.length → sumI ((leasts xs).take n) ≤ sumI (ys.take n) ∧ sumI (ys.take n) ≤ sumI ((mosts xs).take n) := by
      intro n
      induction n with
      | zero => intro _; simp
      | succ n ih =>
        intro hn
        have i := ih (by omega)
        have hl := h.2.1
        have := h.at (k := n) (by omega)
        rw [sumI_take_succ (by simp; omega), sumI_take_succ (by omega), sumI_take_succ (by simp; omega), gI_leasts (by omega), gI_mosts (by omega)]
        omega
    have := key (Nat.le_refl _)
    rw [List.take_of_length_le (by simp), List.take_of_length_le (by rw [h.2.1]; exact Nat.le_refl _), List.take_of_length_le (by simp)] at this
    exact this
  refine ⟨_, dispO_mk h.1 hs.1 hs.2, ?_⟩
  have hd := dispO_mk h.1 hs.1 hs.2
  rw [outCost_ok (dispO_outs hd).1, outCost_ok h]
  exact disp_least hd h rfl
/-- The next unit of power. -/
theorem nextC_ge (xs : List R4) (L : Int) : nextC xs L = -1 ∨ (1 ≤ nextC xs L ∧ nextC xs L ≤ 99) := by
  unfold nextC
  cases h : dispO xs L with
  | none => exact .inl rfl
  | some ys =>
    simp only
    obtain ⟨hu, h1, h2, rfl⟩ := dispO_some h
    rcases nextF_spec xs (dst xs (L - sumA xs)) xs.length with ⟨e, _⟩ | ⟨b, e, hb, _⟩
    · rw [e, if_pos (by omega)]; exact .inl rfl
    · rw [e, if_neg (by omega), Int.toNat_natCast]
      have := hu.at hb; unfold UniOk at this; omega
theorem next_law (xs : List R4) (L : Int) : (nextC xs L = -1 ∧ ((dispO xs L).isSome = false ∨ (dispO xs (L + 1)).isSome = false)) ∨
    (1 ≤ nextC xs L ∧ nextC xs L ≤ 99 ∧ ∃ ys zs, dispO xs L = some ys ∧ dispO xs (L + 1) = some zs ∧ nextC xs L = outCost xs zs - outCost xs ys ∧ (nextC xs (L + 1) = -1 ∨ nextC xs L ≤ nextC xs (L + 1))) := by
  rcases nextC_ge xs L with h | h
  · left
    refine ⟨h, ?_⟩
    cases h1 : dispO xs L with
    | none => exact .inl rfl
    | some ys =>
      cases h2 : dispO xs (L + 1) with
      | none => exact .inr rfl
      | some zs =>
        exfalso
        obtain ⟨hu, a1, a2, _⟩ := dispO_some h1
        obtain ⟨_, b1, b2, _⟩ := dispO_some h2
        obtain ⟨b, hn, hbl, _, hset, _, _⟩ := next_dst hu (T := L - sumA xs) (by omega) (by omega)
        have g1 : nextC xs L = (uAt xs b).c := by unfold nextC; rw [dispO_mk hu a1 a2]; simp only; rw [hn, if_neg (by omega), Int.toNat_natCast]
        have := hu.at hbl; unfold UniOk at this; omega
  · right
    refine ⟨h.1, h.2, ?_⟩
    obtain ⟨ys, zs, e1, e2, e3⟩ := nextC_pos (xs := xs) (L := L) (by omega)
    refine ⟨ys, zs, e1, e2, ?_, ?_⟩
    · rw [outCost_ok (dispO_outs e1).1, outCost_ok (dispO_outs e2).1]; exact e3
    · rcases nextC_ge xs (L + 1) with h3 | h3
      · exact .inl h3
      · exact .inr (nextC_mono (by omega) (by omega))
end Go.Proofs.YtcpopbkcphpdfaaDoor
