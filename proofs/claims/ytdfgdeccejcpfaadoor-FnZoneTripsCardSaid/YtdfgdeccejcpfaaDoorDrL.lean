/- Lists that were drawn: slices from some block on. No program is in sight here. -/
import Derived.Test.YtdfgdeccejcpfaaDoorDrB
import Derived.Test.YtdfgdeccejcpfaaDoorMk
import Derived.Test.YtdfgdeccejcpfaaDoorAppG
namespace Go.Proofs.YtdfgdeccejcpfaaDoor
open Go.RowKit Go.Deep
set_option linter.unusedSimpArgs false
set_option linter.unusedVariables false

/-- The slice value v reads as xs; its block lies from B on. -/
def DrS {α : Type} (k : Nat) (c : α → Nat → Value) (w : World) (B : Nat) (v : Value) (xs : List α) : Prop :=
  ∃ A cp, v = .slice A xs.length cp ∧ xs.length ≤ cp ∧ cp ≤ 9223372036854775807 ∧ (xs = [] ∨ ∃ b off, A = some ⟨b, off, none⟩ ∧ B ≤ b ∧ b < w.heap.size ∧ ∀ (i : Nat) (x : α), xs[i]? = some x → ∀ j, j < k → w.cell? ⟨b, off + (i * k + j), none⟩ = some (c x j))
section
variable {α : Type} {k : Nat} {c : α → Nat → Value} {T : TypeId} {w w' : World} {B : Nat} {v : Value} {xs : List α}
theorem DrS.kept (h : DrS k c w B v xs) (hz : w.heap.size ≤ w'.heap.size) (hb : ∀ g, B ≤ g → g < w.heap.size → w'.heap[g]? = w.heap[g]?) : DrS k c w' B v xs := by
  obtain ⟨A, cp, e, h1, h1', h⟩ := h
  refine ⟨A, cp, e, h1, h1', ?_⟩
  rcases h with h | ⟨b, off, hA, hB, hz', hc⟩
  · exact .inl h
  · exact .inr ⟨b, off, hA, hB, by omega, fun i x hx j hj => (World.cell?_of_block (a := ⟨b, _, none⟩) (hb b hB hz')).trans (hc i x hx j hj)⟩
theorem DrS.chg {g : Nat} (h : DrS k c w B v xs) (hc : Chg g w w') (hg : g < B) : DrS k c w' B v xs := h.kept hc.size fun b hb hz => hc.block b hz (fun e => by injection e; omega)
theorem DrS.below (h : DrS k c w B v xs) (hb : Below w.heap.size w w') : DrS k c w' B v xs := h.kept hb.size fun b _ hz => hb.block b hz
theorem DrS.mono {B' : Nat} (h : DrS k c w B v xs) (hb : B' ≤ B) : DrS k c w B' v xs := by
  obtain ⟨A, cp, e, h1, h1', h⟩ := h
  refine ⟨A, cp, e, h1, h1', ?_⟩
  rcases h with h | ⟨b, off, hA, hB, hz', hc⟩
  · exact .inl h
  · exact .inr ⟨b, off, hA, by omega, hz', hc⟩
theorem DrS.reads {A : Option Addr} {n cp : Nat} (h : DrS k c w B (.slice A n cp) xs) : Reads k c w w.heap.size A xs ∧ n = xs.length := by
  obtain ⟨A', cp', e, h1, h1', h⟩ := h
  injection e with e1 e2 e3
  subst e1
  refine ⟨?_, e2⟩
  rcases h with h | ⟨b, off, hA, hB, hz', hc⟩
  · exact .inl h
  · exact .inr ⟨b, off, hA, hz', hc⟩
theorem DrS.cap {A : Option Addr} {n cp : Nat} (h : DrS k c w B (.slice A n cp) xs) : n ≤ cp ∧ cp ≤ 9223372036854775807 := by
  obtain ⟨A', cp', e, h1, h1', h⟩ := h
  injection e with e1 e2 e3
  omega
theorem Own.cap (h : Own k c T w B v xs) {A : Option Addr} {n cp : Nat} (hv : v = .slice A n cp) : n ≤ cp ∧ cp ≤ maxLen := by
  subst hv
  rcases h.2 with ⟨e, h0⟩ | ⟨g, cap, cur, e, _, _, hn, hm, _⟩
  · injection e with e1 e2 e3; subst e2 e3; exact ⟨Nat.le_refl _, by unfold maxLen; omega⟩
  · injection e with e1 e2 e3; subst e2 e3; exact ⟨hn, hm⟩
theorem Own.drs (h : Own k c T w B v xs) : DrS k c w B v xs := by
  obtain ⟨A, cp, hv⟩ := h.slice
  have hcap := h.cap hv
  unfold maxLen at hcap
  obtain ⟨A', cp', e, h'⟩ := h.res
  rw [hv] at e
  injection e with e1 e2 e3
  subst e1 e3
  refine ⟨A, cp, hv, hcap.1, by omega, ?_⟩
  rcases h' with h' | ⟨g, m, f, hA, hB, hr, hm, hf⟩
  · exact .inl h'
  · refine .inr ⟨g, 0, hA, hB, hr.lt, fun i x hx j hj => ?_⟩
    have hi : i < xs.length := (List.getElem?_eq_some_iff.1 hx).1
    rw [Nat.zero_add, hr.cell (Nat.lt_of_lt_of_le (idx_lt hi hj) hm), hf i x hx j hj]
theorem Own.chg {g : Nat} (h : Own k c T w B v xs) (hc : Chg g w w') (hg : g < B) : Own k c T w' B v xs :=
  h.keep_at hc.size hc.os hc.tape hc.output fun b hb => hc.block b (h.blk b hb).2 (fun e => by injection e with e; have := (h.blk b hb).1; omega)
/-- What an append to such a list leaves. -/
theorem Chg.grown {g : Nat} {a w1 w2 : World} {row : Option Nat} (h : Chg g a w1) (hg : w1.grownBy w2 row) (hr : ∀ k, row = some k → a.heap.size ≤ k) : Chg g a w2 :=
  ⟨hg.os.trans h.os, hg.tape.trans h.tape, hg.output.trans h.output, Nat.le_trans h.size hg.size, fun i hi hne => (hg.block i (Nat.lt_of_lt_of_le hi h.size) (fun e => by have := hr i e.symm; omega)).trans (h.block i hi hne)⟩
theorem RdOk.grown {T' : TypeId} {w1 w2 : World} {g : Nat} {P : Int} {row : Option Nat} (h : RdOk T' w1 g P) (hg : w1.grownBy w2 row) (hr : ∀ k, row = some k → g < k) : RdOk T' w2 g P :=
  h.keep fun k hk => hg.block k (Nat.lt_of_le_of_lt hk h.lt) (fun e => by have := hr k e.symm; omega)
/-- Without the first element. -/
theorem DrS.tail {b off n cp : Nat} (h : DrS k c w B (.slice (some ⟨b, off, none⟩) n cp) xs) (hn : 0 < n) : DrS k c w B (.slice (some ⟨b, off + k, none⟩) (n - 1) (cp - 1)) xs.tail := by
  obtain ⟨A', cp', e, h1, h1', h⟩ := h
  injection e with e1 e2 e3
  subst e1 e2 e3
  refine ⟨_, _, by rw [List.length_tail], by rw [List.length_tail]; omega, by omega, ?_⟩
  rcases h with h | ⟨b', off', hA, hB, hz', hc⟩
  · rw [h] at hn; simp at hn
  · injection hA with hA; injection hA with e1 e2; subst e1 e2
    refine .inr ⟨_, _, rfl, hB, hz', fun i x hx j hj => ?_⟩
    have := hc (i + 1) x (by rw [List.getElem?_tail] at hx; exact hx) j hj
    rw [← this]; congr 2; rw [Nat.succ_mul]; omega
end
end Go.Proofs.YtdfgdeccejcpfaaDoor
