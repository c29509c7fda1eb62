/- A list of the call's own: reading and writing one cell. No program is in sight here. -/
import Derived.Test.YtdfgdeccejcpfaaDoorDrL
namespace Go.Proofs.YtdfgdeccejcpfaaDoor
open Go.RowKit Go.Deep
set_option linter.unusedSimpArgs false
set_option linter.unusedVariables false
section
variable {α : Type} {k : Nat} {c : α → Nat → Value} {T : TypeId} {w w' : World} {B : Nat} {v : Value} {xs : List α}
/-- Its block. -/
theorem Own.bk {A : Option Addr} {n cp : Nat} (h : Own k c T w B (.slice A n cp) xs) (hn : 0 < n) : ∃ g cur, A = some ⟨g, 0, none⟩ ∧ B ≤ g ∧ g < w.heap.size ∧ Bk w g T cur ∧ n * k ≤ cur.size ∧ cur.toList.take (n * k) = flatC k c xs ∧ n = xs.length := by
  rcases h.2 with ⟨e, _⟩ | ⟨g, cap, cur, e, hB, hg, hn', hm, hs, ht⟩
  · injection e with e1 e2 e3; omega
  · injection e with e1 e2 e3
    subst e2 e3
    refine ⟨g, cur, e1, hB, (show Bk w g T cur from hg).lt, hg, ?_, ht, rfl⟩
    rw [hs]; exact Nat.mul_le_mul_right _ hn'
theorem Own.at_ {A : Option Addr} {n cp : Nat} (h : Own k c T w B (.slice A n cp) xs) {i : Nat} (hi : i < xs.length) (hk : 0 < k) :
    ∃ g, A = some ⟨g, 0, none⟩ ∧ B ≤ g ∧ g < w.heap.size ∧ (∀ j, j < k → w.cell? ⟨g, i * k + j, none⟩ = some (c xs[i] j)) ∧ ∀ q, w.frozen? ⟨g, q, none⟩ = false := by
  have hn : n = xs.length := by
    obtain ⟨A', cp', e⟩ := h.slice; injection e
  obtain ⟨g, cur, rfl, hB, hz, hb, hs, ht, _⟩ := h.bk (by omega)
  refine ⟨g, rfl, hB, hz, fun j hj => ?_, hb.frozen⟩
  rw [hb.cell]
  have h1 := flatC_at k c xs i j xs[i] (List.getElem?_eq_getElem hi) hj
  rw [← ht, List.getElem?_take, if_pos (by rw [hn]; exact idx_lt hi hj), Array.getElem?_toList] at h1
  exact h1
theorem flatC_set (k : Nat) (c : α → Nat → Value) : ∀ (xs : List α) (i j : Nat) (x : α) (hi : i < xs.length) (hj : j < k), (∀ q, q < k → q ≠ j → c x q = c xs[i] q) → (flatC k c xs).set (i * k + j) (c x j) = flatC k c (xs.set i x) := by
  intro xs i j x hi hj hc
  apply List.ext_getElem?
  intro q
  rcases Nat.lt_or_ge q (xs.length * k) with hq | hq
  · have hk : 0 < k := by omega
    have e : q = q / k * k + q % k := by rw [Nat.mul_comm]; exact (Nat.div_add_mod q k).symm
    have hq1 : q / k < xs.length := (Nat.div_lt_iff_lt_mul hk).2 hq
    have hq2 : q % k < k := Nat.mod_lt _ hk
    generalize q / k = a at e hq1
    generalize q % k = b at e hq2
    subst e
    have hL : (flatC k c xs)[a * k + b]? = some (c xs[a] b) := flatC_at k c xs a b _ (List.getElem?_eq_getElem hq1) hq2
    by_cases ha : a = i
    · subst ha
      rw [flatC_at k c (xs.set a x) a b x (by simp [hq1]) hq2]
      by_cases hb : b = j
      · subst hb; rw [List.getElem?_set_self (by rw [flatC_len]; exact idx_lt hq1 hq2)]
      · rw [List.getElem?_set_ne (by omega), hL, hc b hq2 hb]
    · rw [flatC_at k c (xs.set i x) a b xs[a] (by rw [List.getElem?_set_ne (fun e => ha e.symm)]; exact List.getElem?_eq_getElem hq1) hq2]
      have hne : i * k + j ≠ a * k + b := by
        intro e
        have h1 : (i * k + j) / k = (a * k + b) / k := by rw [e]
        have d : ∀ u v, v < k → (u * k + v) / k = u := fun u v hv => by rw [Nat.mul_comm, Nat.mul_add_div hk, Nat.div_eq_of_lt hv, Nat.add_zero]
        rw [d i j hj, d a b hq2] at h1
        exact ha h1.symm
      rw [List.getElem?_set_ne hne, hL]
  · rw [List.getElem?_eq_none (by simp [flatC_len]; omega), List.getElem?_eq_none (by rw [flatC_len]; simpa using hq)]
/-- One cell written. -/
theorem Own.setj {g n cp : Nat} (h : Own k c T w B (.slice (some ⟨g, 0, none⟩) n cp) xs) {i j : Nat} (hi : i < xs.length) (hj : j < k) {x : α} (hc : ∀ q, q < k → q ≠ j → c x q = c xs[i] q) :
    Own k c T (w.setCell ⟨g, i * k + j, none⟩ (c x j)) B (.slice (some ⟨g, 0, none⟩) n cp) (xs.set i x) := by
  refine ⟨by rw [flatC_len], ?_⟩
  rcases h.2 with ⟨e, _⟩ | ⟨g', cap, cur, e, hB, hg, hn', hm, hs, ht⟩
  · injection e with e1; cases e1
  · injection e with e1 e2 e3
    injection e1 with e1; injection e1 with e1
    subst e1 e2 e3
    refine .inr ⟨g, cp, cur.setIfInBounds (i * k + j) (c x j), by simp, hB, ?_, by simpa using hn', hm, by simpa using hs, ?_⟩
    · exact (show Bk w g T cur from hg).set (i * k + j) (c x j)
    · rw [← flatC_set k c xs i j x hi hj hc, ← ht]
      simp only [List.length_set, Array.toList_setIfInBounds]
      rw [List.take_set]
theorem Own.at1 {c : α → Nat → Value} {A : Option Addr} {n cp : Nat} (h : Own 1 c T w B (.slice A n cp) xs) {i : Nat} (hi : i < xs.length) :
    ∃ g, A = some ⟨g, 0, none⟩ ∧ B ≤ g ∧ g < w.heap.size ∧ w.cell? ⟨g, i, none⟩ = some (c xs[i] 0) ∧ ∀ q, w.frozen? ⟨g, q, none⟩ = false := by
  obtain ⟨g, h1, h2, h3, h4, h5⟩ := h.at_ hi (by omega)
  have := h4 0 (by omega)
  rw [Nat.mul_one, Nat.add_zero] at this
  exact ⟨g, h1, h2, h3, this, h5⟩
theorem Own.set1 {c : α → Nat → Value} {g n cp : Nat} (h : Own 1 c T w B (.slice (some ⟨g, 0, none⟩) n cp) xs) {i : Nat} (hi : i < xs.length) (x : α) :
    Own 1 c T (w.setCell ⟨g, i, none⟩ (c x 0)) B (.slice (some ⟨g, 0, none⟩) n cp) (xs.set i x) := by
  have := h.setj (i := i) (j := 0) hi (by omega) (x := x) (fun q hq hne => by omega)
  rwa [Nat.mul_one, Nat.add_zero] at this
theorem Own.mono {B' : Nat} (h : Own k c T w B v xs) (hb : B' ≤ B) : Own k c T w B' v xs := by
  refine ⟨h.1, ?_⟩
  rcases h.2 with h | ⟨g, cap, cur, e, hB, h⟩
  · exact .inl h
  · exact .inr ⟨g, cap, cur, e, by omega, h⟩
end
end Go.Proofs.YtdfgdeccejcpfaaDoor
