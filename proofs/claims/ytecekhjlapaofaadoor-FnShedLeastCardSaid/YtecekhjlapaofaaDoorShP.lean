/- Sets of blocks by their numbers: plain words. -/
import Derived.Test.YtecekhjlapaofaaDoorBlkC
import Derived.Test.YtecekhjlapaofaaDoorBits
namespace Go.Proofs.YtecekhjlapaofaaDoor
open Go.RowKit
set_option linter.unusedSimpArgs false
set_option linter.unusedVariables false

/-- The indices of the bits of a number below 256. -/
def setN (s : Nat) : List Nat := (List.range 8).filter (bitN s)
def setIdx (s : Nat) : List Int := (setN s).map fun (k : Nat) => (k : Int)
def sizeAt (xs : List R2) (k : Nat) : Int := (xs.getD k ⟨0, 0⟩).a
def setSum (xs : List R2) (s : Nat) : Nat → Int
  | 0 => 0
  | k + 1 => setSum xs s k + (if bitN s k = true then sizeAt xs k else 0)
def tailSum (xs : List R2) (s : Nat) : Nat → Nat → Int
  | _, 0 => 0
  | k, m + 1 => (if bitN s k = true then sizeAt xs k else 0) + tailSum xs s (k + 1) m
theorem setSum_tail (xs : List R2) (s k m : Nat) : setSum xs s (k + m) = setSum xs s k + tailSum xs s k m := by
  induction m generalizing k with
  | zero => simp [tailSum]
  | succ m ih =>
    have := ih (k + 1)
    rw [show k + 1 + m = k + (m + 1) by omega] at this
    rw [this]
    simp only [setSum, tailSum]
    omega
theorem sh_from (xs : List R2) (s : Nat) : ∀ (m k : Nat) (p t : Int), k + m = xs.length → p < (k : Int) →
    shSum xs p t (((List.range' k m).filter (bitN s)).map fun (k : Nat) => (k : Int)) = some (t + tailSum xs s k m) := by
  intro m
  induction m with
  | zero => intro k p t _ _; simp [shSum, tailSum]
  | succ m ih =>
    intro k p t hk hp
    rw [List.range'_succ, List.filter_cons]
    by_cases hb : bitN s k = true
    · rw [if_pos hb, List.map_cons]
      simp only [shSum, tailSum]
      rw [if_pos ⟨hp, by omega⟩, if_pos hb, ih (k + 1) _ _ (by omega) (by omega), Int.toNat_natCast]
      congr 1
      unfold sizeAt
      omega
    · rw [if_neg hb, ih (k + 1) p t (by omega) (by omega)]
      simp only [tailSum]
      rw [if_neg hb]
      congr 1
      omega
theorem bitN_high {s n k : Nat} (hs : s < 2 ^ n) (hk : n ≤ k) : bitN s k = false := by
  unfold bitN
  have : s / 2 ^ k = 0 := Nat.div_eq_of_lt (Nat.lt_of_lt_of_le hs (Nat.pow_le_pow_right (by omega) hk))
  rw [this]; rfl
theorem setN_low {s n : Nat} (hs : s < 2 ^ n) (hn : n ≤ 8) : setN s = (List.range' 0 n).filter (bitN s) := by
  unfold setN
  rw [List.range_eq_range', show (8 : Nat) = n + (8 - n) by omega, ← List.range'_append_1, List.filter_append]
  have : (List.range' (0 + n) (8 - n)).filter (bitN s) = [] := by
    rw [List.filter_eq_nil_iff]
    intro k hk
    rw [List.mem_range'_1] at hk
    rw [bitN_high hs (by omega)]
    simp
  rw [this, List.append_nil]
theorem shed_set {xs : List R2} (h : BlksP xs) {s : Nat} (hs : s < 2 ^ xs.length) : shedSum xs (setIdx s) = setSum xs s xs.length := by
  unfold shedSum
  rw [if_pos h]
  unfold setIdx
  rw [setN_low hs h.1, sh_from xs s xs.length 0 (-1) 0 (by omega) (by omega)]
  have := setSum_tail xs s 0 xs.length
  simp only [Nat.zero_add, setSum] at this
  rw [this]; rfl
theorem sizeAt_bd {xs : List R2} (h : BlksP xs) {k : Nat} (hk : k < xs.length) : 1 ≤ sizeAt xs k ∧ sizeAt xs k ≤ 999 := by
  have := getD_ok h (y := k) (by omega) (by omega)
  simpa [sizeAt] using this
theorem setSum_bd {xs : List R2} (h : BlksP xs) (s : Nat) {k : Nat} (hk : k ≤ xs.length) : 0 ≤ setSum xs s k ∧ setSum xs s k ≤ 999 * k := by
  induction k with
  | zero => simp [setSum]
  | succ k ih =>
    have := ih (by omega)
    have := sizeAt_bd h (k := k) (by omega)
    simp only [setSum]
    split <;> omega
theorem setN_len (s : Nat) : (setN s).length ≤ 8 := by unfold setN; exact Nat.le_trans (List.length_filter_le _ _) (by simp)
theorem setIdx_len (s : Nat) : (setIdx s).length ≤ 8 := by unfold setIdx; rw [List.length_map]; exact setN_len s
theorem setIdx_I64 (s : Nat) : ∀ y ∈ setIdx s, I64 y := by
  intro y hy
  unfold setIdx setN at hy
  simp only [List.mem_map, List.mem_filter, List.mem_range] at hy
  obtain ⟨k, ⟨hk, _⟩, rfl⟩ := hy
  unfold I64; omega
theorem pop_set : ∀ s, s < 256 → popN s = (setIdx s).length := by decide +kernel
theorem pop_le8 (s : Nat) : popN s ≤ 8 := by
  unfold popN
  simp only [List.range, List.range.loop, List.map_cons, List.map_nil, List.sum_cons, List.sum_nil]
  omega

/-- The best set among the first so many. -/
def slBetter (xs : List R2) (need : Int) (s : Nat) (b : Int) : Prop :=
  need ≤ setSum xs s xs.length ∧ (b < 0 ∨ setSum xs s xs.length < setSum xs b.toNat xs.length ∨ (setSum xs s xs.length = setSum xs b.toNat xs.length ∧ (setIdx s).length < (setIdx b.toNat).length))
instance (xs : List R2) (need : Int) (s : Nat) (b : Int) : Decidable (slBetter xs need s b) := by unfold slBetter; infer_instance
def slBest (xs : List R2) (need : Int) : Nat → Int
  | 0 => -1
  | s + 1 => if slBetter xs need s (slBest xs need s) then (s : Int) else slBest xs need s
theorem slBest_bd (xs : List R2) (need : Int) (s : Nat) : slBest xs need s = -1 ∨ ∃ b : Nat, slBest xs need s = b ∧ b < s ∧ need ≤ setSum xs b xs.length := by
  induction s with
  | zero => exact .inl rfl
  | succ s ih =>
    simp only [slBest]
    split
    · rename_i h; exact .inr ⟨s, rfl, by omega, h.1⟩
    · rcases ih with ih | ⟨b, h1, h2, h3⟩
      · exact .inl ih
      · exact .inr ⟨b, h1, by omega, h3⟩
def slO (xs : List R2) (need : Int) : Option (List Int) := if BlksP xs then (if slBest xs need (2 ^ xs.length) < 0 then none else some (setIdx (slBest xs need (2 ^ xs.length)).toNat)) else none
theorem slO_len (xs : List R2) (need : Int) : ((slO xs need).getD []).length ≤ 8 := by
  unfold slO
  split
  · split
    · simp
    · exact setIdx_len _
  · simp
theorem slBest_all (xs : List R2) (need : Int) (m : Nat) : ∀ s, s < m → need ≤ setSum xs s xs.length → ∃ b : Nat, slBest xs need m = b ∧ (setSum xs b xs.length < setSum xs s xs.length ∨ (setSum xs b xs.length = setSum xs s xs.length ∧ (setIdx b).length ≤ (setIdx s).length)) := by
  induction m with
  | zero => intro s hs; omega
  | succ m ih =>
    intro s hs hn
    simp only [slBest]
    by_cases hm : s = m
    · subst hm
      by_cases hb : slBetter xs need s (slBest xs need s)
      · rw [if_pos hb]; exact ⟨s, rfl, .inr ⟨rfl, Nat.le_refl _⟩⟩
      · rw [if_neg hb]
        rcases slBest_bd xs need s with h | ⟨b, h1, h2, h3⟩
        · exfalso; apply hb; exact ⟨hn, .inl (by rw [h]; omega)⟩
        · refine ⟨b, h1, ?_⟩
          unfold slBetter at hb
          rw [h1, Int.toNat_natCast] at hb
          by_cases e : setSum xs b xs.length < setSum xs s xs.length
          · exact .inl e
          · right
            by_cases e2 : setSum xs s xs.length < setSum xs b xs.length
            · exact absurd ⟨hn, .inr (.inl e2)⟩ hb
            · have e3 : setSum xs b xs.length = setSum xs s xs.length := by omega
              refine ⟨e3, ?_⟩
              rcases Nat.lt_or_ge (setIdx s).length (setIdx b).length with h4 | h4
              · exact absurd ⟨hn, .inr (.inr ⟨e3.symm, h4⟩)⟩ hb
              · exact h4
    · obtain ⟨b, h1, h2⟩ := ih s (by omega) hn
      by_cases hb : slBetter xs need m (slBest xs need m)
      · rw [if_pos hb]
        refine ⟨m, rfl, ?_⟩
        unfold slBetter at hb
        rw [h1, Int.toNat_natCast] at hb
        omega
      · rw [if_neg hb]; exact ⟨b, h1, h2⟩
end Go.Proofs.YtecekhjlapaofaaDoor
