/- Lines between buses, as a graph: plain laws. No program is in sight here. -/
import Derived.Test.YtdfgdeccejcpfaaBase
namespace Go.Proofs.Ytdfgdeccejcpfaa
set_option linter.unusedSimpArgs false
set_option linter.unusedVariables false

/-- Buses that are connected through lines of S. -/
inductive Conn (eA eB : Nat → Nat) (S : Nat → Prop) : Nat → Nat → Prop
  | refl (a : Nat) : Conn eA eB S a a
  | step {a b c k : Nat} : Conn eA eB S a b → S k → ((eA k = b ∧ eB k = c) ∨ (eB k = b ∧ eA k = c)) → Conn eA eB S a c
section
variable {eA eB : Nat → Nat} {S T : Nat → Prop} {a b c k : Nat}
theorem Conn.trans (h : Conn eA eB S a b) (h2 : Conn eA eB S b c) : Conn eA eB S a c := by
  induction h2 with
  | refl => exact h
  | step _ hk he ih => exact ih.step hk he
theorem Conn.one (hk : S k) : Conn eA eB S (eA k) (eB k) := (Conn.refl _).step hk (.inl ⟨rfl, rfl⟩)
theorem Conn.one' (hk : S k) : Conn eA eB S (eB k) (eA k) := (Conn.refl _).step hk (.inr ⟨rfl, rfl⟩)
theorem Conn.symm (h : Conn eA eB S a b) : Conn eA eB S b a := by
  induction h with
  | refl => exact .refl _
  | step _ hk he ih =>
    rcases he with ⟨rfl, rfl⟩ | ⟨rfl, rfl⟩
    · exact (Conn.one' hk).trans ih
    · exact (Conn.one hk).trans ih
theorem Conn.mono (h : Conn eA eB S a b) (hs : ∀ k, S k → T k) : Conn eA eB T a b := by
  induction h with
  | refl => exact .refl _
  | step _ hk he ih => exact ih.step (hs _ hk) he
/-- One line more. -/
theorem Conn.add {m : Nat} (h : Conn eA eB T a b) (hs : ∀ k, T k → S k ∨ k = m) :
    Conn eA eB S a b ∨ (Conn eA eB S a (eA m) ∧ Conn eA eB S (eB m) b) ∨ (Conn eA eB S a (eB m) ∧ Conn eA eB S (eA m) b) := by
  induction h with
  | refl => exact .inl (.refl _)
  | step _ hk he ih =>
    rcases hs _ hk with hk | rfl
    · rcases ih with ih | ⟨h1, h2⟩ | ⟨h1, h2⟩
      · exact .inl (ih.step hk he)
      · exact .inr (.inl ⟨h1, h2.step hk he⟩)
      · exact .inr (.inr ⟨h1, h2.step hk he⟩)
    · rcases he with ⟨rfl, rfl⟩ | ⟨rfl, rfl⟩
      · rcases ih with ih | ⟨h1, h2⟩ | ⟨h1, h2⟩
        · exact .inr (.inl ⟨ih, .refl _⟩)
        · exact .inr (.inl ⟨h1, .refl _⟩)
        · exact .inl h1
      · rcases ih with ih | ⟨h1, h2⟩ | ⟨h1, h2⟩
        · exact .inr (.inr ⟨ih, .refl _⟩)
        · exact .inl h1
        · exact .inr (.inr ⟨h1, .refl _⟩)
/-- What holds at a bus and goes along lines holds wherever it is connected. -/
theorem Conn.keeps {P : Nat → Prop} (h : Conn eA eB S a b) (hp : P a) (hs : ∀ k, S k → (P (eA k) ↔ P (eB k))) : P b := by
  induction h with
  | refl => exact hp
  | step _ hk he ih =>
    rcases he with ⟨rfl, rfl⟩ | ⟨rfl, rfl⟩
    · exact (hs _ hk).1 ih
    · exact (hs _ hk).2 ih
/-- Lines below m of those that are on. -/
def Low (on : Nat → Prop) (m : Nat) (k : Nat) : Prop := on k ∧ k < m
def But (on : Nat → Prop) (m : Nat) (k : Nat) : Prop := on k ∧ k ≠ m
/-- There is a line on a cycle just if there is one that closes a cycle with those before it. -/
theorem acyclic_low {on : Nat → Prop} (h : ∀ k, on k → ¬ Conn eA eB (Low on k) (eA k) (eB k)) : ∀ m k, Low on m k → ¬ Conn eA eB (But (Low on m) k) (eA k) (eB k) := by
  intro m
  induction m with
  | zero => intro k hk; exact absurd hk.2 (by omega)
  | succ m ih =>
    intro k hk hc
    by_cases hkm : k = m
    · subst hkm
      exact h k hk.1 (hc.mono fun j hj => ⟨hj.1.1, by have := hj.1.2; have := hj.2; omega⟩)
    · have hk' : Low on m k := ⟨hk.1, by have := hk.2; omega⟩
      by_cases hm : on m
      · have hsub : ∀ j, But (Low on m) k j → Low on m j := fun j hj => hj.1
        rcases hc.add (S := But (Low on m) k) (m := m) (fun j hj => by
          by_cases hjm : j = m
          · exact .inr hjm
          · exact .inl ⟨⟨hj.1.1, by have := hj.1.2; omega⟩, hj.2⟩) with h1 | ⟨h1, h2⟩ | ⟨h1, h2⟩
        · exact ih k hk' h1
        · refine h m hm ?_
          exact ((h1.mono hsub).symm.trans (Conn.one hk')).trans (h2.mono hsub).symm
        · refine h m hm ?_
          exact ((h2.mono hsub).trans (Conn.one' hk')).trans (h1.mono hsub)
      · exact ih k hk' (hc.mono fun j hj => ⟨⟨hj.1.1, by
          have h2 := hj.1.2
          have : j ≠ m := fun e => hm (e ▸ hj.1.1)
          omega⟩, hj.2⟩)
theorem cycle_iff {on : Nat → Prop} {m : Nat} (hm : ∀ k, on k → k < m) : (∃ k, on k ∧ Conn eA eB (But on k) (eA k) (eB k)) ↔ ∃ k, on k ∧ Conn eA eB (Low on k) (eA k) (eB k) := by
  constructor
  · rintro ⟨k, hk, hc⟩
    apply Classical.byContradiction
    intro hno
    refine acyclic_low (eA := eA) (eB := eB) (on := on) (fun j hj hcj => hno ⟨j, hj, hcj⟩) m k ⟨hk, hm k hk⟩ (hc.mono fun j hj => ⟨⟨hj.1, hm j hj.1⟩, hj.2⟩)
  · rintro ⟨k, hk, hc⟩
    exact ⟨k, hk, hc.mono fun j hj => ⟨hj.1, by have := hj.2; omega⟩⟩
end
/-- Sets of buses by roots: r tells the root of each. -/
structure Roots (B : Nat) (r : Nat → Nat) : Prop where
  lt : ∀ a, a < B → r a < B
  idem : ∀ a, a < B → r (r a) = r a
/-- Pointers that lead to the roots. -/
structure Ptrs (B : Nat) (r u : Nat → Nat) : Prop where
  le : ∀ a, a < B → u a ≤ a
  same : ∀ a, a < B → r (u a) = r a
  root : ∀ a, a < B → u a = a → r a = a
def setF (u : Nat → Nat) (k v : Nat) (j : Nat) : Nat := if j = k then v else u j
theorem setF_same (u : Nat → Nat) (k v : Nat) : setF u k v k = v := by simp [setF]
theorem setF_other {u : Nat → Nat} {k v j : Nat} (h : j ≠ k) : setF u k v j = u j := by simp [setF, h]
theorem Ptrs.halve {B : Nat} {r u : Nat → Nat} (h : Ptrs B r u) {a : Nat} (ha : a < B) (hne : u a ≠ a) : Ptrs B r (setF u a (u (u a))) := by
  have h1 := h.le a ha
  have h2 := h.le (u a) (by omega)
  refine ⟨fun b hb => ?_, fun b hb => ?_, fun b hb he => ?_⟩
  · by_cases e : b = a
    · subst e; rw [setF_same]; omega
    · rw [setF_other e]; exact h.le b hb
  · by_cases e : b = a
    · subst e; rw [setF_same, h.same _ (by omega), h.same _ ha]
    · rw [setF_other e]; exact h.same b hb
  · by_cases e : b = a
    · subst e; rw [setF_same] at he; omega
    · rw [setF_other e] at he; exact h.root b hb he
def joinR (r : Nat → Nat) (M m : Nat) (x : Nat) : Nat := if r x = M then m else r x
theorem Ptrs.join {B M m : Nat} {r u : Nat → Nat} (hr : Roots B r) (h : Ptrs B r u) (hM : r M = M) (hm : r m = m) (hle : m ≤ M) (hB : M < B) : Roots B (joinR r M m) ∧ Ptrs B (joinR r M m) (setF u M m) := by
  have jm : joinR r M m m = m := by unfold joinR; rw [hm]; split <;> rfl
  have jM : joinR r M m M = m := by unfold joinR; rw [if_pos hM]
  refine ⟨⟨fun x hx => ?_, fun x hx => ?_⟩, ⟨fun x hx => ?_, fun x hx => ?_, fun x hx he => ?_⟩⟩
  · unfold joinR; have := hr.lt x hx; split <;> omega
  · by_cases e : r x = M
    · have : joinR r M m x = m := by unfold joinR; rw [if_pos e]
      rw [this, jm]
    · have h1 : joinR r M m x = r x := by unfold joinR; rw [if_neg e]
      have h2 : joinR r M m (r x) = r x := by unfold joinR; rw [hr.idem x hx, if_neg e]
      rw [h1, h2]
  · by_cases e : x = M
    · subst e; rw [setF_same]; exact hle
    · rw [setF_other e]; exact h.le x hx
  · by_cases e : x = M
    · subst e; rw [setF_same, jm, jM]
    · rw [setF_other e]; unfold joinR; rw [h.same x hx]
  · by_cases e : x = M
    · subst e; rw [setF_same] at he; rw [jM, he]
    · rw [setF_other e] at he
      have := h.root x hx he
      unfold joinR; rw [this, if_neg e]
/-- The roots tell which buses are connected. -/
def RootsOf (eA eB : Nat → Nat) (S : Nat → Prop) (B : Nat) (r : Nat → Nat) : Prop := ∀ a b, a < B → b < B → (r a = r b ↔ Conn eA eB S a b)
theorem RootsOf.join {eA eB : Nat → Nat} {S T : Nat → Prop} {B k M m : Nat} {r : Nat → Nat} (h : RootsOf eA eB S B r) (hT : ∀ j, T j ↔ (S j ∨ j = k)) (hp : eA k < B) (hq : eB k < B)
    (hM : M = max (r (eA k)) (r (eB k))) (hm : m = min (r (eA k)) (r (eB k))) : RootsOf eA eB T B (joinR r M m) := by
  intro a b ha hb
  have hsub : ∀ j, S j → T j := fun j hj => (hT j).2 (.inl hj)
  have hone : Conn eA eB T (eA k) (eB k) := Conn.one ((hT k).2 (.inr rfl))
  have hc : ∀ x y, x < B → y < B → r x = r y → Conn eA eB T x y := fun x y hx hy e => ((h x y hx hy).1 e).mono hsub
  have hMm : (M = r (eA k) ∧ m = r (eB k)) ∨ (M = r (eB k) ∧ m = r (eA k)) := by omega
  constructor
  · intro e
    unfold joinR at e
    by_cases ea : r a = M
    · by_cases eb : r b = M
      · exact hc a b ha hb (ea.trans eb.symm)
      · rw [if_pos ea, if_neg eb] at e
        rcases hMm with ⟨h1, h2⟩ | ⟨h1, h2⟩
        · exact ((hc a _ ha hp (by omega)).trans hone).trans (hc _ b hq hb (by omega))
        · exact ((hc a _ ha hq (by omega)).trans hone.symm).trans (hc _ b hp hb (by omega))
    · by_cases eb : r b = M
      · rw [if_neg ea, if_pos eb] at e
        rcases hMm with ⟨h1, h2⟩ | ⟨h1, h2⟩
        · exact ((hc a _ ha hq (by omega)).trans hone.symm).trans (hc _ b hp hb (by omega))
        · exact ((hc a _ ha hp (by omega)).trans hone).trans (hc _ b hq hb (by omega))
      · rw [if_neg ea, if_neg eb] at e
        exact hc a b ha hb e
  · intro e
    have key : ∀ x, x < B → (Conn eA eB S x (eA k) ∨ Conn eA eB S x (eB k)) → joinR r M m x = m := by
      intro x hx hxc
      unfold joinR
      rcases hxc with hxc | hxc
      · have := (h x _ hx hp).2 hxc
        split <;> omega
      · have := (h x _ hx hq).2 hxc
        split <;> omega
    rcases e.add (S := S) (m := k) (fun j hj => (hT j).1 hj) with h1 | ⟨h1, h2⟩ | ⟨h1, h2⟩
    · have := (h a b ha hb).2 h1
      unfold joinR; rw [this]
    · rw [key a ha (.inl h1), key b hb (.inr h2.symm)]
    · rw [key a ha (.inr h1), key b hb (.inl h2.symm)]
end Go.Proofs.Ytdfgdeccejcpfaa
