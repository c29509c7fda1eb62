/- Blocks that are shed by rank: plain words. -/
import Derived.Test.YtecekhjlapaofaaDoorShP
import Derived.Test.YtecekhjlapaofaaDoorSrtP
namespace Go.Proofs.YtecekhjlapaofaaDoor
open Go.RowKit
set_option linter.unusedSimpArgs false
set_option linter.unusedVariables false

def rankAt (xs : List R2) (k : Nat) : Int := (xs.getD k ⟨0, 0⟩).b
def ordB (xs : List R2) : List Nat := ordO (rankAt xs) xs.length
/-- Blocks one after the other until the need is met. -/
def takeNeed (xs : List R2) (need : Int) : Int → List Nat → Option (List Nat)
  | t, [] => if t < need then none else some []
  | t, k :: ks => if t < need then (takeNeed xs need (t + sizeAt xs k) ks).map (k :: ·) else some []
def pickN (l : List Nat) : List Nat := (List.range 8).filter (fun k => decide (k ∈ l))
def pickI (l : List Nat) : List Int := (pickN l).map fun (k : Nat) => (k : Int)
def sfO (xs : List R2) (need : Int) : Option (List Int) := if BlksP xs then (takeNeed xs need 0 (ordB xs)).map pickI else none
theorem pickI_len (l : List Nat) : (pickI l).length ≤ 8 := by unfold pickI pickN; rw [List.length_map]; exact Nat.le_trans (List.length_filter_le _ _) (by simp)
theorem sfO_len (xs : List R2) (need : Int) : ((sfO xs need).getD []).length ≤ 8 := by
  unfold sfO
  split
  · cases takeNeed xs need 0 (ordB xs) with
    | none => simp
    | some l => exact pickI_len l
  · simp
theorem rankAt_bd {xs : List R2} (h : BlksP xs) {k : Nat} (hk : k < xs.length) : 0 ≤ rankAt xs k ∧ rankAt xs k ≤ 9 := by
  have e : xs.getD k ⟨0, 0⟩ = xs[k] := by rw [List.getD_eq_getElem?_getD, List.getElem?_eq_getElem hk]; rfl
  have := h.2 _ (List.getElem_mem hk)
  unfold rankAt BlkOk at *
  rw [e]; omega

/-- All blocks by rank, those of one rank in order. -/
def byRank (xs : List R2) (r : Nat) : List Nat := (List.range r).flatMap fun (q : Nat) => (List.range xs.length).filter fun k => decide (rankAt xs k = (q : Int))
theorem byRank_succ (xs : List R2) (r : Nat) : byRank xs (r + 1) = byRank xs r ++ (List.range xs.length).filter fun k => decide (rankAt xs k = (r : Int)) := by
  unfold byRank; rw [List.range_succ, List.flatMap_append]; simp
theorem byRank_mem {xs : List R2} {r k : Nat} : k ∈ byRank xs r ↔ (k < xs.length ∧ 0 ≤ rankAt xs k ∧ rankAt xs k < r) := by
  unfold byRank
  simp only [List.mem_flatMap, List.mem_range, List.mem_filter, decide_eq_true_eq]
  constructor
  · rintro ⟨q, h1, h2, h3⟩; omega
  · rintro ⟨h1, h2, h3⟩; exact ⟨(rankAt xs k).toNat, by omega, h1, by omega⟩
theorem range_filter_sorted (n : Nat) (p : Nat → Bool) : ((List.range n).filter p).Pairwise (· < ·) := List.Pairwise.filter _ List.pairwise_lt_range
theorem byRank_sorted (xs : List R2) (r : Nat) : (byRank xs r).Pairwise (RLt (rankAt xs)) := by
  induction r with
  | zero => simp [byRank]
  | succ r ih =>
    rw [byRank_succ, List.pairwise_append]
    refine ⟨ih, ?_, fun a ha b hb => ?_⟩
    · refine (range_filter_sorted _ _).imp_of_mem (fun {a b} ha hb hr => ?_)
      rw [List.mem_filter, decide_eq_true_eq] at ha hb
      unfold RLt; omega
    · have := byRank_mem.1 ha
      rw [List.mem_filter, decide_eq_true_eq] at hb
      unfold RLt; omega
theorem nodup_of_sorted {key : Nat → Int} {l : List Nat} (h : l.Pairwise (RLt key)) : l.Nodup := h.imp (fun hr he => by subst he; unfold RLt at hr; omega)
theorem byRank_all {xs : List R2} (h : BlksP xs) : byRank xs 10 = ordB xs := by
  refine ordO_unique ?_ (byRank_sorted xs 10)
  refine (List.perm_ext_iff_of_nodup (nodup_of_sorted (byRank_sorted xs 10)) List.nodup_range).2 fun k => ?_
  rw [byRank_mem, List.mem_range]
  constructor
  · exact fun h => h.1
  · intro hk
    have := rankAt_bd h hk
    omega

/-- What the reference keeps: a sum and the number of the set. -/
def sfStep (xs : List R2) (need : Int) (s : Int × Nat) (k : Nat) : Int × Nat := if s.1 < need then (s.1 + sizeAt xs k, s.2 + 2 ^ k) else s
def sfRun (xs : List R2) (need : Int) (l : List Nat) : Int × Nat := l.foldl (sfStep xs need) (0, 0)
theorem sfRun_snoc (xs : List R2) (need : Int) (l : List Nat) (k : Nat) : sfRun xs need (l ++ [k]) = sfStep xs need (sfRun xs need l) k := by unfold sfRun; rw [List.foldl_append]; rfl
theorem sf_stay (xs : List R2) (need : Int) {s : Int × Nat} (h : ¬ s.1 < need) : ∀ l : List Nat, l.foldl (sfStep xs need) s = s
  | [] => rfl
  | k :: l => by
    rw [List.foldl_cons]
    have : sfStep xs need s k = s := by unfold sfStep; rw [if_neg h]
    rw [this]; exact sf_stay xs need h l
def sumP : List Nat → Nat
  | [] => 0
  | k :: l => 2 ^ k + sumP l
def sumS (xs : List R2) : List Nat → Int
  | [] => 0
  | k :: l => sizeAt xs k + sumS xs l
theorem sf_take (xs : List R2) (need : Int) : ∀ (l : List Nat) (s : Int × Nat), match takeNeed xs need s.1 l with
    | none => (l.foldl (sfStep xs need) s).1 < need
    | some m => need ≤ (l.foldl (sfStep xs need) s).1 ∧ l.foldl (sfStep xs need) s = (s.1 + sumS xs m, s.2 + sumP m) ∧ m <+: l
  | [], s => by
    by_cases h : s.1 < need
    · simp [takeNeed, h]
    · simp only [takeNeed, h, if_false, List.foldl_nil, sumS, sumP]
      exact ⟨by omega, by simp, List.nil_prefix⟩
  | k :: l, s => by
    by_cases h : s.1 < need
    · simp only [takeNeed, h, if_true, List.foldl_cons]
      have e : sfStep xs need s k = (s.1 + sizeAt xs k, s.2 + 2 ^ k) := by unfold sfStep; rw [if_pos h]
      have ih := sf_take xs need l (s.1 + sizeAt xs k, s.2 + 2 ^ k)
      rw [e]
      simp only at ih
      cases hm : takeNeed xs need (s.1 + sizeAt xs k) l with
      | none => rw [hm] at ih; simpa using ih
      | some m =>
        rw [hm] at ih
        simp only at ih
        obtain ⟨h1, h2, h3⟩ := ih
        simp only [Option.map_some, sumS, sumP]
        refine ⟨h1, by rw [h2]; congr 1 <;> omega, ?_⟩
        exact List.cons_prefix_cons.2 ⟨rfl, h3⟩
    · simp only [takeNeed, h, if_false, List.foldl_cons]
      have : sfStep xs need s k = s := by unfold sfStep; rw [if_neg h]
      rw [this, sf_stay xs need h]
      exact ⟨by omega, by simp [sumS, sumP], List.nil_prefix⟩
theorem sumP_lt {n : Nat} : ∀ {l : List Nat}, l.Pairwise (· > ·) → (∀ k ∈ l, k < n) → sumP l < 2 ^ n
  | [], _, _ => by simp only [sumP]; exact Nat.two_pow_pos n
  | k :: l, h, hl => by
    have h1 := List.pairwise_cons.1 h
    have := sumP_lt (n := k) h1.2 (fun j hj => h1.1 j hj)
    have hk := hl k (by simp)
    have : 2 ^ (k + 1) ≤ 2 ^ n := Nat.pow_le_pow_right (by omega) hk
    rw [Nat.pow_succ] at this
    simp only [sumP]; omega
theorem sumP_perm {l m : List Nat} (h : l.Perm m) : sumP l = sumP m := by
  induction h with
  | nil => rfl
  | cons k _ ih => simp only [sumP, ih]
  | swap a b l => simp only [sumP]; omega
  | trans _ _ h1 h2 => rw [h1, h2]
theorem sumS_perm {xs : List R2} {l m : List Nat} (h : l.Perm m) : sumS xs l = sumS xs m := by
  induction h with
  | nil => rfl
  | cons k _ ih => simp only [sumS, ih]
  | swap a b l => simp only [sumS]; omega
  | trans _ _ h1 h2 => rw [h1, h2]
/-- The number of a set below 8 has the set's bits. -/
theorem bit_try : ∀ s, s < 256 → sumP (setN s) = s := by decide +kernel
theorem setN_mem {s k : Nat} : k ∈ setN s ↔ (k < 8 ∧ bitN s k = true) := by unfold setN; rw [List.mem_filter, List.mem_range]
theorem pickN_mem {l : List Nat} {k : Nat} : k ∈ pickN l ↔ (k < 8 ∧ k ∈ l) := by unfold pickN; rw [List.mem_filter, List.mem_range, decide_eq_true_eq]
theorem pickN_perm {l : List Nat} (hn : l.Nodup) (h : ∀ k ∈ l, k < 8) : (pickN l).Perm l := by
  refine (List.perm_ext_iff_of_nodup ?_ hn).2 fun k => ?_
  · exact List.filter_sublist.nodup List.nodup_range
  · rw [pickN_mem]; exact ⟨fun hh => hh.2, fun hh => ⟨h k hh, hh⟩⟩
def codeOf (b : Fin 8 → Bool) : List Nat := (List.range 8).filter fun k => if h : k < 8 then b ⟨k, h⟩ else false
theorem set_try : ∀ b0 b1 b2 b3 b4 b5 b6 b7 : Bool, setN (sumP ((List.range 8).filter fun k => [b0, b1, b2, b3, b4, b5, b6, b7].getD k false)) = (List.range 8).filter (fun k => [b0, b1, b2, b3, b4, b5, b6, b7].getD k false) := by decide +kernel
theorem filter_bools (p : Nat → Bool) : (List.range 8).filter p = (List.range 8).filter (fun k => [p 0, p 1, p 2, p 3, p 4, p 5, p 6, p 7].getD k false) := by
  apply List.filter_congr
  intro k hk
  rw [List.mem_range] at hk
  rcases k with _ | _ | _ | _ | _ | _ | _ | _ | k <;> first | rfl | omega
theorem set_pick {l : List Nat} (hn : l.Nodup) (h : ∀ k ∈ l, k < 8) : setN (sumP l) = pickN l := by
  rw [← sumP_perm (pickN_perm hn h)]
  unfold pickN
  rw [filter_bools]
  exact set_try _ _ _ _ _ _ _ _
theorem sumP_256 {l : List Nat} (hn : l.Nodup) (h : ∀ k ∈ l, k < 8) {n : Nat} (h2 : ∀ k ∈ l, k < n) : sumP l < 2 ^ n := by
  rw [← sumP_perm (pickN_perm hn h), ← sumP_perm (List.reverse_perm _)]
  refine sumP_lt ?_ fun k hk => h2 k ?_
  · rw [List.pairwise_reverse]; exact range_filter_sorted 8 _
  · rw [List.mem_reverse, pickN_mem] at hk; exact hk.2
/-- What the reference's run ends with. -/
theorem sf_ref {xs : List R2} (h : BlksP xs) (need : Int) : match takeNeed xs need 0 (ordB xs) with
    | none => (sfRun xs need (byRank xs 10)).1 < need
    | some m => need ≤ (sfRun xs need (byRank xs 10)).1 ∧ setIdx (sfRun xs need (byRank xs 10)).2 = pickI m ∧ (sfRun xs need (byRank xs 10)).2 < 2 ^ xs.length ∧ (sfRun xs need (byRank xs 10)).1 = sumS xs m ∧ (sfRun xs need (byRank xs 10)).2 = sumP m ∧ m <+: ordB xs := by
  rw [byRank_all h]
  have := sf_take xs need (ordB xs) (0, 0)
  simp only at this
  cases hm : takeNeed xs need 0 (ordB xs) with
  | none => rw [hm] at this; exact this
  | some m =>
    rw [hm] at this
    simp only [Int.zero_add, Nat.zero_add] at this
    obtain ⟨h1, h2, h3⟩ := this
    unfold sfRun
    have hnd : m.Nodup := h3.sublist.nodup (ordO_nodup _ _)
    have hlt : ∀ k ∈ m, k < xs.length := fun k hk => ordO_mem.1 (h3.subset hk)
    have hlt8 : ∀ k ∈ m, k < 8 := fun k hk => Nat.lt_of_lt_of_le (hlt k hk) h.1
    rw [h2] at h1 ⊢
    simp only
    refine ⟨h1, ?_, sumP_256 hnd hlt8 hlt, trivial, trivial, h3⟩
    unfold setIdx pickI
    rw [set_pick hnd hlt8]
end Go.Proofs.YtecekhjlapaofaaDoor
