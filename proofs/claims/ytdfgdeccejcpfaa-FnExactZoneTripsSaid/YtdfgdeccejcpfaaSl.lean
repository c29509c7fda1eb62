/- Slices in memory: one that a call made, as a list; what a read keeps. No program is in sight here. -/
import Derived.Test.YtdfgdeccejcpfaaBase
import Derived.Deep.OwnRows
import Derived.Deep.Draws
import Derived.WalkSmall
import Derived.Laws.MakeOwn
import Derived.OwnWalk
import Derived.Deep.Light
namespace Go.Proofs.Ytdfgdeccejcpfaa
open Go.RowKit Go.ChangeShapes Go.WideShapes Go.Deep
set_option linter.unusedSimpArgs false
set_option linter.unusedVariables false

/-- The slice value v holds the list xs in a block of its own from block B on (or xs is empty). -/
def Res {α : Type} (k : Nat) (cells : α → Nat → Value) (T : TypeId) (w : World) (B : Nat) (v : Value) (xs : List α) : Prop :=
  ∃ A c, v = .slice A xs.length c ∧ (xs = [] ∨ ∃ g m f, A = some ⟨g, 0, none⟩ ∧ B ≤ g ∧ w.rowIs g T m f ∧ xs.length * k ≤ m ∧ ∀ (i : Nat) (x : α), xs[i]? = some x → ∀ j, j < k → f (i * k + j) = cells x j)

theorem idx_lt {i j k n : Nat} (hi : i < n) (hj : j < k) : i * k + j < n * k := by
  have : (i + 1) * k ≤ n * k := Nat.mul_le_mul_right k hi
  rw [Nat.succ_mul] at this
  omega

theorem Res.reads {α : Type} {k : Nat} {c : α → Nat → Value} {T : TypeId} {w : World} {B : Nat} {A : Option Addr} {n cp : Nat} {xs : List α} (h : Res k c T w B (.slice A n cp) xs) : Reads k c w w.heap.size A xs ∧ n = xs.length := by
  obtain ⟨A', cp', e, h⟩ := h
  injection e with e1 e2 e3
  subst e1
  refine ⟨?_, e2⟩
  rcases h with h | ⟨g, m, f, hA, hB, hr, hm, hf⟩
  · exact .inl h
  · refine .inr ⟨g, 0, hA, hr.lt, fun i x hx j hj => ?_⟩
    have hi : i < xs.length := (List.getElem?_eq_some_iff.1 hx).1
    rw [Nat.zero_add, hr.cell (Nat.lt_of_lt_of_le (idx_lt hi hj) hm), hf i x hx j hj]
theorem Res.kept {α : Type} {k : Nat} {c : α → Nat → Value} {T : TypeId} {w w' : World} {B : Nat} {v : Value} {xs : List α} (h : Res k c T w B v xs) (hb : ∀ g, B ≤ g → g < w.heap.size → w'.heap[g]? = w.heap[g]?) : Res k c T w' B v xs := by
  obtain ⟨A, cp, e, h⟩ := h
  refine ⟨A, cp, e, ?_⟩
  rcases h with h | ⟨g, m, f, hA, hB, hr, hm, hf⟩
  · exact .inl h
  · exact .inr ⟨g, m, f, hA, hB, hr.of_block (hb g hB hr.lt), hm, hf⟩
theorem Res.below {α : Type} {k : Nat} {c : α → Nat → Value} {T : TypeId} {w w' : World} {B : Nat} {v : Value} {xs : List α} (h : Res k c T w B v xs) (hb : Below w.heap.size w w') : Res k c T w' B v xs := h.kept fun g _ hg => hb.block g hg
theorem Res.mono {α : Type} {k : Nat} {c : α → Nat → Value} {T : TypeId} {w : World} {B B' : Nat} {v : Value} {xs : List α} (h : Res k c T w B v xs) (hb : B' ≤ B) : Res k c T w B' v xs := by
  obtain ⟨A, cp, e, h⟩ := h
  refine ⟨A, cp, e, ?_⟩
  rcases h with h | ⟨g, m, f, hA, hB, hr⟩
  · exact .inl h
  · exact .inr ⟨g, m, f, hA, Nat.le_trans hb hB, hr⟩
theorem Res.of_row {α : Type} {k : Nat} {c : α → Nat → Value} {T : TypeId} {w : World} {B g m cp n : Nat} {f : Nat → Value} {xs : List α} (hB : B ≤ g) (hr : w.rowIs g T m f) (hn : n = xs.length) (hm : xs.length * k ≤ m)
    (hf : ∀ (i : Nat) (x : α), xs[i]? = some x → ∀ j, j < k → f (i * k + j) = c x j) : Res k c T w B (.slice (some ⟨g, 0, none⟩) n cp) xs := by
  subst hn
  exact ⟨_, _, rfl, .inr ⟨g, m, f, rfl, hB, hr, hm, hf⟩⟩

/-- A call returns a slice of its own that reads as xs. -/
def RetS {α : Type} (k : Nat) (cells : α → Nat → Value) (T : TypeId) (w : World) (xs : List α) (e : Ending) (w' : World) : Prop := ∃ v, e = .returned v ∧ Res k cells T w' w.heap.size v xs ∧ Below w.heap.size w w'

theorem below_drewN' {B : Nat} {a w : World} (h : Below B a w) (n : Nat) : Below B a (w.drewN n) := ⟨h.os, h.tape, h.output, h.size, h.block⟩

theorem run_mk {P : Program} (t e : TypeId) (z : Value) (size bytes n : Nat) (ht : P.underlying t = some (.slice e)) (hi : (P.info? e).map (fun i => (i.zero, i.size, i.bytes)) = some (some z, size, bytes)) (hb : bytes * n ≤ 281474976710656) (h63 : n ≤ 9223372036854775807) (w : World) :
    (Instr.makeSlice t (.int .i64 (n : Int)) (.int .i64 (n : Int))).run P w = .ok (.slice (some ⟨w.heap.size, 0, none⟩) n n) (w.alloc (.cells (madeCells z.cells (n * size)) e)) := by
  obtain ⟨i, h1, h2, h3, h4⟩ := info_parts hi
  have hb' : (i.bytes : Int) * (n : Int) ≤ 281474976710656 := by
    rw [h4]
    have h : ((bytes * n : Nat) : Int) ≤ 281474976710656 := by omega
    rwa [Int.natCast_mul] at h
  have := run_make (P := P) w t e i z ht h1 h2 .i64 .i64 n n (by omega) (by omega) hb' (by omega)
  simp only [Int.toNat_natCast, h3] at this
  exact this

theorem getElem?_of_lt {α : Type} {xs : List α} {i : Nat} {x : α} (h : xs[i]? = some x) : ∃ hi : i < xs.length, xs[i] = x := List.getElem?_eq_some_iff.1 h
end Go.Proofs.Ytdfgdeccejcpfaa
