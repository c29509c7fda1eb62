/- Stable orders of indices: plain lists, no program in sight. -/
import Derived.Test.YtcpopbkcphpdfaaDoorRk
namespace Go.Proofs.YtcpopbkcphpdfaaDoor
set_option linter.unusedSimpArgs false
set_option linter.unusedVariables false

/-- j goes ahead of k: a lesser key, or an equal one and a lesser index. -/
def RLt (key : Nat → Int) (j k : Nat) : Prop := key j < key k ∨ (key j = key k ∧ j < k)
theorem RLt.asymm {key : Nat → Int} {j k : Nat} (h1 : RLt key j k) (h2 : RLt key k j) : False := by
  unfold RLt at h1 h2; omega
theorem RLt.total {key : Nat → Int} {j k : Nat} (h : j ≠ k) : RLt key j k ∨ RLt key k j := by
  unfold RLt; omega
theorem sorted_unique {α : Type} {R : α → α → Prop} (has : ∀ a b, R a b → R b a → False) : ∀ {l1 l2 : List α}, l1.Perm l2 → l1.Pairwise R → l2.Pairwise R → l1 = l2
  | [], l2, hp, _, _ => by have := hp.length_eq; simp at this; rw [List.length_eq_zero_iff.1 this.symm]
  | a :: l1, [], hp, _, _ => by have := hp.length_eq; simp at this
  | a :: l1, b :: l2, hp, h1, h2 => by
    rw [List.pairwise_cons] at h1 h2
    have hab : a = b := by
      have ha : a ∈ b :: l2 := hp.mem_iff.1 (by simp)
      have hb : b ∈ a :: l1 := hp.mem_iff.2 (by simp)
      rcases List.mem_cons.1 ha with h | ha
      · exact h
      · rcases List.mem_cons.1 hb with h | hb
        · exact h.symm
        · exact absurd (h2.1 a ha) (fun h => has _ _ h (h1.1 b hb))
    subst hab
    rw [sorted_unique has (List.Perm.cons_inv hp) h1.2 h2.2]
def insO (key : Nat → Int) (x : Nat) : List Nat → List Nat
  | [] => [x]
  | y :: ys => if RLtB key x y then x :: y :: ys else y :: insO key x ys
where RLtB (key : Nat → Int) (x y : Nat) : Bool := decide (key x < key y ∨ (key x = key y ∧ x < y))
theorem insO_perm (key : Nat → Int) (x : Nat) : ∀ l, (insO key x l).Perm (x :: l)
  | [] => List.Perm.refl _
  | y :: ys => by
    unfold insO
    split
    · exact List.Perm.refl _
    · exact ((insO_perm key x ys).cons y).trans (List.Perm.swap x y ys)
theorem insO_sorted (key : Nat → Int) (x : Nat) : ∀ l, x ∉ l → l.Pairwise (RLt key) → (insO key x l).Pairwise (RLt key)
  | [], _, _ => by simp [insO]
  | y :: ys, hx, h => by
    have h' := List.pairwise_cons.1 h
    unfold insO
    split
    · rename_i hc
      have hxy : RLt key x y := by simpa [insO.RLtB, RLt] using hc
      refine List.pairwise_cons.2 ⟨fun z hz => ?_, h⟩
      rcases List.mem_cons.1 hz with rfl | hz
      · exact hxy
      · have := h'.1 z hz
        unfold RLt at hxy this ⊢; omega
    · rename_i hc
      have hxy : ¬ RLt key x y := by simpa [insO.RLtB, RLt] using hc
      have hne : x ≠ y := fun e => hx (by simp [e])
      refine List.pairwise_cons.2 ⟨fun z hz => ?_, insO_sorted key x ys (fun hm => hx (by simp [hm])) h'.2⟩
      rcases List.mem_cons.1 ((insO_perm key x ys).mem_iff.1 hz) with rfl | hz
      · rcases RLt.total (key := key) hne with h | h
        · exact absurd h hxy
        · exact h
      · exact h'.1 z hz
/-- The indices below n in order. -/
def ordO (key : Nat → Int) : Nat → List Nat
  | 0 => []
  | n + 1 => insO key n (ordO key n)
theorem ordO_perm (key : Nat → Int) : ∀ n, (ordO key n).Perm (List.range n)
  | 0 => List.Perm.refl _
  | n + 1 => by
    rw [List.range_succ]
    exact ((insO_perm key n _).trans ((ordO_perm key n).cons n)).trans (List.perm_append_singleton n _).symm
theorem ordO_sorted (key : Nat → Int) : ∀ n, (ordO key n).Pairwise (RLt key)
  | 0 => by simp [ordO]
  | n + 1 => insO_sorted key n _ (fun h => by have := (ordO_perm key n).mem_iff.1 h; simp at this) (ordO_sorted key n)
theorem ordO_len (key : Nat → Int) (n : Nat) : (ordO key n).length = n := by rw [(ordO_perm key n).length_eq, List.length_range]
theorem ordO_mem {key : Nat → Int} {n k : Nat} : k ∈ ordO key n ↔ k < n := by rw [(ordO_perm key n).mem_iff, List.mem_range]
theorem ordO_nodup (key : Nat → Int) (n : Nat) : (ordO key n).Nodup := (ordO_perm key n).nodup_iff.2 List.nodup_range
theorem ordO_unique {key : Nat → Int} {n : Nat} {l : List Nat} (hp : l.Perm (List.range n)) (hs : l.Pairwise (RLt key)) : l = ordO key n :=
  sorted_unique (fun _ _ => RLt.asymm) (hp.trans (ordO_perm key n).symm) hs (ordO_sorted key n)
theorem ordO_congr {key key' : Nat → Int} {n : Nat} (h : ∀ k, k < n → key k = key' k) : ordO key n = ordO key' n := by
  refine ordO_unique (ordO_perm key n) ?_
  refine (ordO_sorted key n).imp_of_mem (fun {a b} ha hb hr => ?_)
  unfold RLt at hr ⊢
  rw [← h a (ordO_mem.1 ha), ← h b (ordO_mem.1 hb)]; exact hr
/-- Two neighbours swapped. -/
theorem swap_perm {α : Type} : ∀ (l : List α) (j : Nat) (hj : j + 1 < l.length), ((l.set (j + 1) l[j]).set j l[j + 1]).Perm l
  | [], j, hj => by simp at hj
  | [a], j, hj => by simp at hj
  | a :: b :: l, 0, hj => by simpa using List.Perm.swap a b l
  | a :: b :: l, j + 1, hj => by
    have := swap_perm (b :: l) j (by simpa using hj)
    simpa using this.cons a
end Go.Proofs.YtcpopbkcphpdfaaDoor
