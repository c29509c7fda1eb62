/- The laws of ShedFirst and ShedLeast: plain words. -/
import Derived.Test.YtecekhjlapaofaaDoorSfP
import Derived.Test.YtecekhjlapaofaaDoorShS
namespace Go.Proofs.YtecekhjlapaofaaDoor
open Go.RowKit
set_option linter.unusedSimpArgs false
set_option linter.unusedVariables false

theorem sumS_append (xs : List R2) (l m : List Nat) : sumS xs (l ++ m) = sumS xs l + sumS xs m := by
  induction l with
  | nil => simp [sumS]
  | cons k l ih => simp only [List.cons_append, sumS, ih]; omega
theorem tailP_sumS (xs : List R2) (p : Nat → Bool) : ∀ (m k : Nat), tailP xs p k m = sumS xs ((List.range' k m).filter p)
  | 0, k => by simp [tailP, sumS]
  | m + 1, k => by
    rw [List.range'_succ, List.filter_cons]
    simp only [tailP]
    rw [tailP_sumS xs p m (k + 1)]
    split
    · simp only [sumS]
    · simp
theorem pickN_low {l : List Nat} {n : Nat} (h : ∀ k ∈ l, k < n) (hn : n ≤ 8) : pickN l = (List.range' 0 n).filter (fun k => decide (k ∈ l)) := by
  unfold pickN
  rw [List.range_eq_range', show (8 : Nat) = n + (8 - n) by omega, ← List.range'_append_1, List.filter_append]
  have : (List.range' (0 + n) (8 - n)).filter (fun k => decide (k ∈ l)) = [] := by
    rw [List.filter_eq_nil_iff]
    intro k hk
    rw [List.mem_range'_1] at hk
    rw [decide_eq_true_eq]
    intro hm
    have := h k hm
    omega
  rw [this, List.append_nil]
theorem shed_pick {xs : List R2} (h : BlksP xs) {m : List Nat} (hn : m.Nodup) (hl : ∀ k ∈ m, k < xs.length) : shedSum xs (pickI m) = sumS xs m := by
  unfold shedSum
  rw [if_pos h]
  unfold pickI
  rw [pickN_low hl h.1, sh_pred xs _ xs.length 0 (-1) 0 (by omega) (by omega)]
  rw [tailP_sumS, ← pickN_low hl h.1, sumS_perm (pickN_perm hn (fun k hk => Nat.lt_of_lt_of_le (hl k hk) h.1))]
  simp
theorem take_last {xs : List R2} {need : Int} {a : Nat} {m : List Nat} : ∀ {l : List Nat} {t : Int}, takeNeed xs need t l = some (m ++ [a]) → t + sumS xs m < need := by
  induction m with
  | nil =>
    intro l t h
    cases l with
    | nil => simp only [takeNeed] at h; split at h <;> simp at h
    | cons k l =>
      simp only [takeNeed] at h
      split at h
      · simp only [sumS]; omega
      · simp at h
  | cons b m ih =>
    intro l t h
    cases l with
    | nil => simp only [takeNeed] at h; split at h <;> simp at h
    | cons k l =>
      simp only [takeNeed] at h
      split at h
      · rw [Option.map_eq_some_iff] at h
        obtain ⟨y, hy, e⟩ := h
        rw [List.cons_append] at e
        injection e with e1 e2
        subst e1; subst e2
        have := ih hy
        simp only [sumS]; omega
      · simp at h
/-- The last one of those with the greatest rank, as the law finds it. -/
def lastF (xs : List R2) (x : List Int) : Nat → Int
  | 0 => -1
  | k + 1 => if (k : Int) ∈ x ∧ (lastF xs x k < 0 ∨ rankAt xs (lastF xs x k).toNat ≤ rankAt xs k) then (k : Int) else lastF xs x k
theorem lastF_inv (xs : List R2) (x : List Int) (n : Nat) : (lastF xs x n = -1 ∧ ∀ k : Nat, k < n → (k : Int) ∉ x) ∨ ∃ l : Nat, lastF xs x n = l ∧ l < n ∧ (l : Int) ∈ x ∧ ∀ k : Nat, k < n → (k : Int) ∈ x → k = l ∨ RLt (rankAt xs) k l := by
  induction n with
  | zero => left; exact ⟨rfl, fun k hk => by omega⟩
  | succ n ih =>
    simp only [lastF]
    rcases ih with ⟨h1, h2⟩ | ⟨l, h1, h2, h3, h4⟩
    · by_cases hm : (n : Int) ∈ x
      · right
        rw [if_pos ⟨hm, .inl (by rw [h1]; omega)⟩]
        refine ⟨n, rfl, by omega, hm, fun k hk hx => ?_⟩
        by_cases e : k = n
        · exact .inl e
        · exact absurd hx (h2 k (by omega))
      · left
        rw [if_neg (fun h => hm h.1)]
        refine ⟨h1, fun k hk => ?_⟩
        by_cases e : k = n
        · subst e; exact hm
        · exact h2 k (by omega)
    · right
      rw [h1, Int.toNat_natCast]
      by_cases hc : (n : Int) ∈ x ∧ ((l : Int) < 0 ∨ rankAt xs l ≤ rankAt xs n)
      · rw [if_pos hc]
        obtain ⟨hm, hr⟩ := hc
        refine ⟨n, rfl, by omega, hm, fun k hk hx => ?_⟩
        by_cases e : k = n
        · exact .inl e
        · right
          rcases h4 k (by omega) hx with h | h
          · subst h; unfold RLt; omega
          · unfold RLt at h ⊢; omega
      · rw [if_neg hc]
        refine ⟨l, rfl, by omega, h3, fun k hk hx => ?_⟩
        by_cases e : k = n
        · subst e
          right
          have : ¬ rankAt xs l ≤ rankAt xs k := fun hr => hc ⟨hx, .inr hr⟩
          unfold RLt; omega
        · exact h4 k (by omega) hx
theorem pickI_mem {l : List Nat} {x : Int} : x ∈ pickI l ↔ ∃ k : Nat, x = k ∧ k < 8 ∧ k ∈ l := by
  unfold pickI
  simp only [List.mem_map, pickN_mem]
  constructor
  · rintro ⟨k, ⟨h1, h2⟩, rfl⟩; exact ⟨k, rfl, h1, h2⟩
  · rintro ⟨k, rfl, h1, h2⟩; exact ⟨k, ⟨h1, h2⟩, rfl⟩
theorem pickI_asc (l : List Nat) : (pickI l).Pairwise (· < ·) := by
  unfold pickI pickN
  refine List.Pairwise.map _ (fun a b h => ?_) (range_filter_sorted 8 _)
  show (a : Int) < (b : Int)
  omega
/-- What FnShedFirst asks. -/
structure SfLaw (xs : List R2) (need : Int) (x : List Int) : Prop where
  low : ∀ y ∈ x, 0 ≤ y ∧ y < xs.length
  left : ∀ k : Nat, k < xs.length → ∀ y ∈ x, (k : Int) ∉ x → ¬ rankAt xs k < rankAt xs y.toNat
  sum : need ≤ shedSum xs x ∧ 0 ≤ shedSum xs x ∧ shedSum xs x ≤ 8000
  last : lastF xs x xs.length = -1 ∨ ∃ l : Nat, lastF xs x xs.length = l ∧ l < xs.length ∧ shedSum xs x - sizeAt xs l < need
  asc : x.Pairwise (· < ·)
theorem sf_law {xs : List R2} {need : Int} {x : List Int} (h : sfO xs need = some x) : BlksP xs ∧ SfLaw xs need x := by
  unfold sfO at h
  split at h
  · rename_i hB
    rw [Option.map_eq_some_iff] at h
    obtain ⟨m, hm, rfl⟩ := h
    have href := sf_ref hB need
    rw [hm] at href
    simp only at href
    obtain ⟨r1, r2, r3, r4, r5, r6⟩ := href
    have hnd : m.Nodup := r6.sublist.nodup (ordO_nodup _ _)
    have hlt : ∀ k ∈ m, k < xs.length := fun k hk => ordO_mem.1 (r6.subset hk)
    have hlt8 : ∀ k ∈ m, k < 8 := fun k hk => Nat.lt_of_lt_of_le (hlt k hk) hB.1
    have hsh := shed_pick hB hnd hlt
    have hmem : ∀ k : Nat, (k : Int) ∈ pickI m ↔ k ∈ m := fun k => by
      rw [pickI_mem]
      constructor
      · rintro ⟨j, e, _, hj⟩
        have : k = j := by omega
        rw [this]; exact hj
      · intro hk; exact ⟨k, rfl, hlt8 k hk, hk⟩
    have hso : m.Pairwise (RLt (rankAt xs)) := List.Pairwise.sublist r6.sublist (ordO_sorted _ _)
    have hbd : 0 ≤ sumS xs m ∧ sumS xs m ≤ 8000 := by
      rw [← hsh]
      unfold shedSum
      rw [if_pos hB]
      unfold pickI
      rw [pickN_low hlt hB.1, sh_pred xs _ xs.length 0 (-1) 0 (by omega) (by omega)]
      have := tailP_bd hB (fun k => decide (k ∈ m)) xs.length 0 (by omega)
      have := hB.1
      simp only [Option.getD_some]; omega
    refine ⟨hB, ⟨fun y hy => ?_, fun k hk y hy hkx hr => ?_, ⟨by rw [hsh, ← r4]; exact r1, by rw [hsh]; exact hbd.1, by rw [hsh]; exact hbd.2⟩, ?_, pickI_asc m⟩⟩
    · obtain ⟨j, rfl, _, hj⟩ := pickI_mem.1 hy
      have := hlt j hj
      omega
    · obtain ⟨j, rfl, _, hj⟩ := pickI_mem.1 hy
      rw [Int.toNat_natCast] at hr
      have hkm : k ∉ m := fun q => hkx ((hmem k).2 q)
      obtain ⟨rest, hrest⟩ := r6
      have hko : k ∈ ordB xs := ordO_mem.2 hk
      rw [← hrest] at hko
      rcases List.mem_append.1 hko with q | q
      · exact hkm q
      · have hs := ordO_sorted (rankAt xs) xs.length
        have : (m ++ rest).Pairwise (RLt (rankAt xs)) := by rw [hrest]; exact hs
        have := (List.pairwise_append.1 this).2.2 j hj k q
        unfold RLt at this; omega
    · rcases lastF_inv xs (pickI m) xs.length with ⟨h1, _⟩ | ⟨l, h1, h2, h3, h4⟩
      · exact .inl h1
      · right
        refine ⟨l, h1, h2, ?_⟩
        have hlm : l ∈ m := (hmem l).1 h3
        rcases List.eq_nil_or_concat m with e | ⟨m', a, e⟩
        · rw [e] at hlm; simp at hlm
        · rw [List.concat_eq_append] at e
          have ham : a ∈ m := by rw [e]; simp
          have hla : l = a := by
            rw [e] at hlm hso
            rcases List.mem_append.1 hlm with q | q
            · have hr1 := (List.pairwise_append.1 hso).2.2 l q a (by simp)
              rcases h4 a (hlt a ham) ((hmem a).2 ham) with q2 | q2
              · exact q2.symm
              · exact (RLt.asymm hr1 q2).elim
            · simpa using q
          rw [hsh, hla]
          have ht := take_last (m := m') (a := a) (by rw [← e]; exact hm)
          rw [e, sumS_append]
          simp only [sumS]
          omega
  · cases h
theorem setSum_sumS (xs : List R2) (s n : Nat) : setSum xs s n = sumS xs ((List.range' 0 n).filter (bitN s)) := by
  induction n with
  | zero => simp [setSum, sumS]
  | succ n ih =>
    rw [← List.range'_append_1 (s := 0) (m := n) (n := 1), List.filter_append, sumS_append, ← ih]
    simp only [setSum, Nat.zero_add, List.range'_one, List.filter_cons, List.filter_nil]
    split <;> simp [sumS]
theorem sumS_nonneg {xs : List R2} (h : BlksP xs) {l : List Nat} (hl : ∀ k ∈ l, k < xs.length) : 0 ≤ sumS xs l := by
  induction l with
  | nil => simp [sumS]
  | cons k l ih =>
    have := sizeAt_bd h (hl k (by simp))
    have := ih (fun j hj => hl j (by simp [hj]))
    simp only [sumS]; omega
theorem sumS_sub {xs : List R2} (h : BlksP xs) {l m : List Nat} (hs : l.Sublist m) (hm : ∀ k ∈ m, k < xs.length) : sumS xs l ≤ sumS xs m := by
  induction hs with
  | slnil => exact Int.le_refl _
  | cons a _ ih =>
    have := ih (fun k hk => hm k (by simp [hk]))
    have := sizeAt_bd h (hm a (by simp))
    simp only [sumS]; omega
  | cons_cons a _ ih =>
    have := ih (fun k hk => hm k (by simp [hk]))
    simp only [sumS]; omega
theorem take_none {xs : List R2} {need : Int} : ∀ {l : List Nat} {t : Int}, takeNeed xs need t l = none → t + sumS xs l < need
  | [], t, h => by
    simp only [takeNeed] at h
    split at h
    · simp only [sumS]; omega
    · cases h
  | k :: l, t, h => by
    simp only [takeNeed] at h
    split at h
    · rw [Option.map_eq_none_iff] at h
      have := take_none h
      simp only [sumS]; omega
    · cases h
/-- What FnShedLeast asks where there is a set. -/
structure SlLaw (xs : List R2) (need : Int) (x : List Int) : Prop where
  first : ∃ y, sfO xs need = some y ∧ shedSum xs x ≤ shedSum xs y ∧ 0 ≤ shedSum xs y ∧ shedSum xs y ≤ 8000
  sum : need ≤ shedSum xs x ∧ 0 ≤ shedSum xs x ∧ shedSum xs x ≤ 8000
  best : ∀ s : Nat, s < 2 ^ xs.length → ¬ (need ≤ shedSum xs (setIdx s) ∧ (shedSum xs (setIdx s) < shedSum xs x ∨ shedSum xs (setIdx s) = shedSum xs x ∧ (setIdx s).length < x.length))
  asc : x.Pairwise (· < ·)
theorem sl_law {xs : List R2} {need : Int} {x : List Int} (h : slO xs need = some x) : BlksP xs ∧ SlLaw xs need x := by
  unfold slO at h
  split at h
  · rename_i hB
    split at h
    · cases h
    · rename_i hneg
      injection h with h
      rcases slBest_bd xs need (2 ^ xs.length) with q | ⟨b, q1, q2, q3⟩
      · omega
      · rw [q1, Int.toNat_natCast] at h
        subst h
        have hsh := shed_set hB q2
        have hb := setSum_bd hB b (Nat.le_refl _)
        have h8 := hB.1
        refine ⟨hB, ⟨?_, ⟨by rw [hsh]; exact q3, by rw [hsh]; omega, by rw [hsh]; omega⟩, fun s hs hc => ?_, ?_⟩⟩
        · cases ho : sfO xs need with
          | none =>
            exfalso
            unfold sfO at ho
            rw [if_pos hB, Option.map_eq_none_iff] at ho
            have ht := take_none ho
            have hsub : sumS xs ((List.range' 0 xs.length).filter (bitN b)) ≤ sumS xs (List.range' 0 xs.length) := sumS_sub hB List.filter_sublist (fun k hk => by rw [List.mem_range'_1] at hk; omega)
            rw [← setSum_sumS] at hsub
            have hp : sumS xs (ordB xs) = sumS xs (List.range xs.length) := sumS_perm (ordO_perm _ _)
            rw [List.range_eq_range'] at hp
            omega
          | some y =>
            obtain ⟨_, hl⟩ := sf_law ho
            refine ⟨y, rfl, ?_, hl.sum.2.1, hl.sum.2.2⟩
            -- y is a set, too
            have hy : ∃ s, s < 2 ^ xs.length ∧ y = setIdx s := by
              unfold sfO at ho
              rw [if_pos hB, Option.map_eq_some_iff] at ho
              obtain ⟨m, hm, rfl⟩ := ho
              have href := sf_ref hB need
              rw [hm] at href
              simp only at href
              exact ⟨_, href.2.2.1, href.2.1.symm⟩
            obtain ⟨s, hs, rfl⟩ := hy
            have hn := hl.sum.1
            rw [shed_set hB hs] at hn ⊢
            obtain ⟨b', e1, e2⟩ := slBest_all xs need (2 ^ xs.length) s hs hn
            have : b' = b := by omega
            subst this
            rw [hsh]
            omega
        · rw [shed_set hB hs, hsh] at hc
          obtain ⟨b', e1, e2⟩ := slBest_all xs need (2 ^ xs.length) s hs hc.1
          have : b' = b := by omega
          subst this
          omega
        · unfold setIdx setN
          refine List.Pairwise.map _ (fun a b h => ?_) (range_filter_sorted 8 _)
          show (a : Int) < (b : Int)
          omega
  · cases h
theorem sl_none {xs : List R2} {need : Int} (h : slO xs need = none) : sfO xs need = none := by
  unfold slO at h
  split at h
  · rename_i hB
    split at h
    · rename_i hneg
      cases ho : sfO xs need with
      | none => rfl
      | some y =>
        exfalso
        obtain ⟨_, hl⟩ := sf_law ho
        have hn := hl.sum.1
        unfold sfO at ho
        rw [if_pos hB, Option.map_eq_some_iff] at ho
        obtain ⟨m, hm, rfl⟩ := ho
        have href := sf_ref hB need
        rw [hm] at href
        simp only at href
        rw [← href.2.1, shed_set hB href.2.2.1] at hn
        obtain ⟨b', e1, e2⟩ := slBest_all xs need (2 ^ xs.length) _ href.2.2.1 hn
        omega
    · cases h
  · rename_i hB
    unfold sfO; rw [if_neg hB]
end Go.Proofs.YtecekhjlapaofaaDoor
