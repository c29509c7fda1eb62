/- slices.SortStableFunc of few indices, with a comparison of keys. -/
import Derived.Test.YtcpopbkcphpdfaaDoorProg
import Derived.Test.YtcpopbkcphpdfaaDoorSrtP
import Derived.Test.YtcpopbkcphpdfaaDoorMk
import Derived.RegionTactic
namespace Go.Proofs.YtcpopbkcphpdfaaDoor
open Go.RowKit Go.Deep
set_option linter.unusedSimpArgs false
set_option linter.unusedVariables false

def cmpI (a b : Int) : Int := if a < b then -1 else if b < a then 1 else 0
theorem compare_any (a b : Int) (w : World) :
    Calls Tryd.prog 71 #[.int .i64 a, .int .i64 b] w fun e w' => e = .returned (.int .i64 (cmpI a b)) ∧ w = w' := by
  have hn : ∀ (x : Int) (W : World), Calls Tryd.prog 89 #[.int .i64 x] W fun e w' => e = .returned (.bool false) ∧ W = w' := by
    intro x W
    have hx : (x != x) = false := by simp
    go_enter Tryd.func89, Tryd.ntmps89
    go_wp2
    go_ret
    exact ⟨rfl, rfl⟩
  have HN := Lib.hid hn; clear hn
  unfold cmpI
  rcases Int.lt_or_le a b with h1 | h1
  · rw [if_pos h1]
    go_enter Tryd.func71, Tryd.ntmps71
    go_wp2_with (go_at_call 89; refine (HN.out _ _).mono ?_; rintro e w' ⟨rfl, rfl⟩)
    go_ret
    exact ⟨rfl, rfl⟩
  · rcases Int.lt_or_le b a with h2 | h2
    · rw [if_neg (by omega), if_pos h2]
      go_enter Tryd.func71, Tryd.ntmps71
      go_wp2_with (go_at_call 89; refine (HN.out _ _).mono ?_; rintro e w' ⟨rfl, rfl⟩)
      go_ret
      exact ⟨rfl, rfl⟩
    · rw [if_neg (by omega), if_neg (by omega)]
      have h3 : a = b := by omega
      subst h3
      go_enter Tryd.func71, Tryd.ntmps71
      go_wp2_with (go_at_call 89; refine (HN.out _ _).mono ?_; rintro e w' ⟨rfl, rfl⟩)
      go_ret
      exact ⟨rfl, rfl⟩

/-- What is asked of a comparison: it compares keys, and leaves the world alone, wherever only block g has turned. -/
def CmpOk (F : FuncId) (cp : Value) (key : Nat → Int) (n g : Nat) (w : World) : Prop :=
  ∀ (a b : Nat) (W : World), a < n → b < n → Mk g (g + 1) w W → Calls Tryd.prog F #[.int .i64 a, .int .i64 b, cp] W fun e w' => e = .returned (.int .i64 (cmpI (key a) (key b))) ∧ ∃ m, w' = W.drewN m
def dAt (ds : List Nat) (p : Nat) : Nat := ds.getD p 0
theorem dAt_set {ds : List Nat} {k j v : Nat} (h : k < ds.length) : dAt (ds.set k v) j = if k = j then v else dAt ds j := by
  unfold dAt
  rw [List.getD_eq_getElem?_getD, List.getElem?_set, List.getD_eq_getElem?_getD]
  by_cases e : k = j
  · subst e; simp [h]
  · simp [e]
theorem dAt_get {ds : List Nat} {k : Nat} (h : k < ds.length) : dAt ds k = ds[k] := by
  unfold dAt; rw [List.getD_eq_getElem?_getD, List.getElem?_eq_getElem h]; rfl
def idxC (ds : List Nat) (j : Nat) : Value := .int .i64 (dAt ds j : Nat)
/-- The first i are in order, the others as they were. -/
structure SrO (key : Nat → Int) (n i : Nat) (ds : List Nat) : Prop where
  perm : ds.Perm (List.range n)
  ord : ∀ p q, p < q → q < i → RLt key (dAt ds p) (dAt ds q)
  lt : ∀ p, p < i → dAt ds p < i
  rest : ∀ p, i ≤ p → p < n → dAt ds p = p
/-- The element i is on its way, at place j. -/
structure SrI (key : Nat → Int) (n i j : Nat) (ds : List Nat) : Prop where
  perm : ds.Perm (List.range n)
  at_ : dAt ds j = i
  ord : ∀ p q, p < q → q ≤ i → p ≠ j → q ≠ j → RLt key (dAt ds p) (dAt ds q)
  lt : ∀ p, p ≤ i → p ≠ j → dAt ds p < i
  gt : ∀ q, j < q → q ≤ i → key i < key (dAt ds q)
  rest : ∀ p, i < p → p < n → dAt ds p = p
theorem SrO.start {key : Nat → Int} {n i : Nat} {ds : List Nat} (h : SrO key n i ds) (hi : i < n) : SrI key n i i ds :=
  ⟨h.perm, h.rest i (Nat.le_refl _) hi, fun p q h1 h2 h3 h4 => h.ord p q h1 (by omega), fun p h1 h2 => h.lt p (by omega), fun q h1 h2 => by omega, fun p h1 h2 => h.rest p (by omega) h2⟩
theorem SrI.done {key : Nat → Int} {n i j : Nat} {ds : List Nat} (h : SrI key n i j ds) (hj : j ≤ i) (hs : j = 0 ∨ key (dAt ds (j - 1)) ≤ key i) : SrO key n (i + 1) ds := by
  refine ⟨h.perm, fun p q h1 h2 => ?_, fun p h1 => ?_, fun p h1 h2 => h.rest p (by omega) h2⟩
  · by_cases hp : p = j
    · subst hp; rw [h.at_]; exact .inl (h.gt q h1 (by omega))
    · by_cases hq : q = j
      · subst hq
        have hlt := h.lt p (by omega) hp
        rw [h.at_]
        rcases hs with h0 | hs
        · omega
        · by_cases hp1 : p = q - 1
          · subst hp1; unfold RLt; omega
          · have := h.ord p (q - 1) (by omega) (by omega) hp (by omega)
            unfold RLt at this ⊢; omega
      · exact h.ord p q h1 (by omega) hp hq
  · by_cases hp : p = j
    · subst hp; rw [h.at_]; omega
    · have := h.lt p (by omega) hp; omega
theorem SrI.swap {key : Nat → Int} {n i j : Nat} {ds : List Nat} (h : SrI key n i (j + 1) ds) (hj : j + 1 ≤ i) (hi : i < n) (hk : key i < key (dAt ds j)) : SrI key n i j ((ds.set (j + 1) (dAt ds j)).set j (dAt ds (j + 1))) := by
  have hl : ds.length = n := by rw [h.perm.length_eq, List.length_range]
  have e : ∀ p, dAt ((ds.set (j + 1) (dAt ds j)).set j (dAt ds (j + 1))) p = if j = p then dAt ds (j + 1) else if j + 1 = p then dAt ds j else dAt ds p := fun p => by
    rw [dAt_set (by simp; omega), dAt_set (by omega)]
  refine ⟨?_, ?_, fun p q h1 h2 h3 h4 => ?_, fun p h1 h2 => ?_, fun q h1 h2 => ?_, fun p h1 h2 => ?_⟩
  · rw [dAt_get (by omega : j < ds.length), dAt_get (by omega : j + 1 < ds.length)]
    exact (swap_perm ds j (by omega)).trans h.perm
  · rw [e, if_pos rfl]; exact h.at_
  · rw [e p, e q, if_neg (show ¬ j = p from fun h => h3 h.symm), if_neg (show ¬ j = q from fun h => h4 h.symm)]
    by_cases hp : j + 1 = p
    · rw [if_pos hp, if_neg (by omega)]; exact h.ord j q (by omega) h2 (by omega) (by omega)
    · rw [if_neg hp]
      by_cases hq : j + 1 = q
      · rw [if_pos hq]; exact h.ord p j (by omega) (by omega) (by omega) (by omega)
      · rw [if_neg hq]; exact h.ord p q h1 h2 (by omega) (by omega)
  · rw [e, if_neg (by omega)]
    by_cases hp : j + 1 = p
    · rw [if_pos hp]; exact h.lt j (by omega) (by omega)
    · rw [if_neg hp]; exact h.lt p h1 (by omega)
  · rw [e, if_neg (by omega)]
    by_cases hq : j + 1 = q
    · rw [if_pos hq]; exact hk
    · rw [if_neg hq]; exact h.gt q (by omega) h2
  · rw [e, if_neg (by omega), if_neg (by omega)]; exact h.rest p h1 h2
theorem SrO.final {key : Nat → Int} {n i : Nat} {ds : List Nat} (h : SrO key n i ds) (hi : n ≤ i) : ds = ordO key n := by
  have hl : ds.length = n := by rw [h.perm.length_eq, List.length_range]
  refine ordO_unique h.perm (List.pairwise_iff_getElem.2 fun p q h1 h2 h3 => ?_)
  have := h.ord p q h3 (by omega)
  rw [dAt_get h1, dAt_get h2] at this; exact this
theorem SrO.zero {key : Nat → Int} {n i : Nat} (hi : i ≤ 1) : SrO key n i (List.range n) := by
  refine ⟨List.Perm.refl _, fun p q h1 h2 => by omega, fun p h1 => ?_, fun p h1 h2 => ?_⟩
  · obtain rfl : p = 0 := by omega
    unfold dAt
    rcases n with _ | n
    · simp; omega
    · rw [List.getD_eq_getElem?_getD, List.getElem?_range (by omega)]; simpa using h1
  · unfold dAt; rw [List.getD_eq_getElem?_getD, List.getElem?_range h2]; rfl
end Go.Proofs.YtcpopbkcphpdfaaDoor
