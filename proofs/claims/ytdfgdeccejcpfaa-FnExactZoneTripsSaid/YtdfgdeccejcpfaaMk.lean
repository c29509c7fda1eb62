/- A row that is written over from end to end: what it leaves, and the marks. No program is in sight here. -/
import Derived.Test.YtdfgdeccejcpfaaRk
namespace Go.Proofs.Ytdfgdeccejcpfaa
open Go.RowKit Go.ChangeShapes Go.WideShapes Go.Deep
set_option linter.unusedSimpArgs false
set_option linter.unusedVariables false

/-- Only blocks from B up to E may differ, and none is new. -/
structure Mk (B E : Nat) (w w' : World) : Prop where
  os : w'.os = w.os
  tape : w'.tape = w.tape
  output : w'.output = w.output
  size : w'.heap.size = w.heap.size
  block : ∀ g, g < B ∨ E ≤ g → w'.heap[g]? = w.heap[g]?
theorem Mk.refl (B E : Nat) (w : World) : Mk B E w w := ⟨rfl, rfl, rfl, rfl, fun _ _ => rfl⟩
theorem Mk.below {B E C : Nat} {w w' : World} (h : Mk B E w w') (hC : C ≤ B) : Below C w w' := ⟨h.os, h.tape, h.output, by rw [h.size]; exact Nat.le_refl _, fun g hg => h.block g (.inl (by omega))⟩
theorem Mk.set {B E : Nat} {w w' : World} (h : Mk B E w w') {p : Addr} (h1 : B ≤ p.block) (h2 : p.block < E) (v : Value) : Mk B E w (w'.setCell p v) :=
  ⟨h.os, h.tape, h.output, by simp [World.setCell, h.size], fun g hg => (Below.heap_setCell _ _ _ _ (by omega)).trans (h.block g hg)⟩
theorem Mk.drewN {B E : Nat} {w w' : World} (h : Mk B E w w') (n : Nat) : Mk B E w (w'.drewN n) := ⟨h.os, h.tape, h.output, h.size, h.block⟩
theorem Mk.drew {B E : Nat} {w w' : World} (h : Mk B E w w') : Mk B E w (w'.drew) := ⟨h.os, h.tape, h.output, h.size, h.block⟩
theorem Res.mk_up {α : Type} {k : Nat} {c : α → Nat → Value} {T : TypeId} {w w' : World} {B B' E : Nat} {v : Value} {xs : List α} (h : Res k c T w B' v xs) (m : Mk B E w w') (hB : E ≤ B') : Res k c T w' B' v xs :=
  h.kept fun g h1 _ => m.block g (.inr (by omega))

/-- A call returns a slice of its own that reads as xs, and a bool. -/
def RetP {α : Type} (k : Nat) (c : α → Nat → Value) (T : TypeId) (w : World) (xs : List α) (b : Bool) (e : Ending) (w' : World) : Prop := ∃ v, e = .returned (.tuple #[v, .bool b]) ∧ Res k c T w' w.heap.size v xs ∧ Below w.heap.size w w'
/-- A call returns a slice of its own that reads as xs, and a number. -/
def RetN {α : Type} (k : Nat) (c : α → Nat → Value) (T : TypeId) (w : World) (xs : List α) (b : Int) (e : Ending) (w' : World) : Prop := ∃ v, e = .returned (.tuple #[v, .int .i64 b]) ∧ Res k c T w' w.heap.size v xs ∧ Below w.heap.size w w'
theorem rets {α : Type} {k : Nat} {c : α → Nat → Value} {T : TypeId} {P : Program} {f : FuncId} {a : Array Value} {w : World} {xs ys : List α} (h : xs = ys) (hc : Calls P f a w (RetS k c T w xs)) : Calls P f a w (RetS k c T w ys) := h ▸ hc
theorem retp {α : Type} {k : Nat} {c : α → Nat → Value} {T : TypeId} {P : Program} {f : FuncId} {a : Array Value} {w : World} {xs ys : List α} {b d : Bool} (h : xs = ys) (hb : b = d) (hc : Calls P f a w (RetP k c T w xs b)) : Calls P f a w (RetP k c T w ys d) := h ▸ hb ▸ hc
theorem retn {α : Type} {k : Nat} {c : α → Nat → Value} {T : TypeId} {P : Program} {f : FuncId} {a : Array Value} {w : World} {xs ys : List α} {b d : Int} (h : xs = ys) (hb : b = d) (hc : Calls P f a w (RetN k c T w xs b)) : Calls P f a w (RetN k c T w ys d) := h ▸ hb ▸ hc

/-- The marks k, k + inc .. -/
def marks {α : Type} (f : Int → α) (inc : Nat) (k : Int) (n : Nat) : List α := (List.range n).map fun i => f (k + (i * inc : Nat))
@[simp] theorem marks_len {α : Type} (f : Int → α) (inc : Nat) (k : Int) (n : Nat) : (marks f inc k n).length = n := by simp [marks]
theorem marks_get {α : Type} {f : Int → α} {inc : Nat} {k : Int} {n i : Nat} {x : α} (h : (marks f inc k n)[i]? = some x) : i < n ∧ x = f (k + (i * inc : Nat)) := by
  simp only [marks, List.getElem?_map, List.getElem?_range] at h
  by_cases hi : i < n
  · simp [hi] at h; exact ⟨hi, h.symm⟩
  · simp [hi] at h
theorem marks_at {α : Type} {f : Int → α} {inc : Nat} {k : Int} {n i : Nat} (h : i < (marks f inc k n).length) : (marks f inc k n)[i] = f (k + (i * inc : Nat)) := by simp [marks]
def mk2 (k : Int) : R2 := ⟨k, k + 1⟩
def mk3 (k : Int) : R3 := ⟨k, k + 1, k + 2⟩
def mk4 (k : Int) : R4 := ⟨k, k + 1, k + 2, k + 3⟩
def mkB (k : Int) : Bool := k % 3 == 0

/-- Where its block ends. -/
theorem Res.top {α : Type} {k : Nat} {c : α → Nat → Value} {T : TypeId} {w : World} {B : Nat} {v : Value} {xs : List α} (h : Res k c T w B v xs) : xs.length = 0 ∨ ∀ g, v.ownBlock = some g → g < w.heap.size := by
  obtain ⟨A, cp, rfl, h⟩ := h
  rcases h with h | ⟨g, m, f, rfl, hB, hr, hm, hf⟩
  · left; rw [h]; rfl
  · right; intro g' hg'; injection hg' with hg'; subst hg'; exact hr.lt
/-- An empty list's slice, or one of its own: taken apart. -/
theorem Res.own {α : Type} {k : Nat} {c : α → Nat → Value} {T : TypeId} {w : World} {B : Nat} {v : Value} {xs : List α} (h : Res k c T w B v xs) :
    ∃ A cp, v = .slice A xs.length cp ∧ (xs.length = 0 ∨ ∃ g m f, A = some ⟨g, 0, none⟩ ∧ B ≤ g ∧ g < w.heap.size ∧ w.rowIs g T m f ∧ xs.length * k ≤ m) := by
  obtain ⟨A, cp, e, h⟩ := h
  refine ⟨A, cp, e, ?_⟩
  rcases h with h | ⟨g, m, f, hA, hB, hr, hm, hf⟩
  · left; rw [h]; rfl
  · exact .inr ⟨g, m, f, hA, hB, hr.lt, hr, hm⟩
theorem Res.empty {α : Type} {k : Nat} {c : α → Nat → Value} {T : TypeId} {w : World} {B n cp : Nat} {A : Option Addr} {xs : List α} (hn : n = xs.length) (h0 : n = 0) : Res k c T w B (.slice A n cp) xs := by
  subst hn
  exact ⟨A, cp, rfl, .inl (List.length_eq_zero_iff.1 h0)⟩
end Go.Proofs.Ytdfgdeccejcpfaa
