/- A row of memory that holds a list, cell by cell. No program is in sight here. -/
import Derived.Test.YtdfgdeccejcpfaaMk
namespace Go.Proofs.Ytdfgdeccejcpfaa
open Go.RowKit Go.Deep
set_option linter.unusedSimpArgs false
set_option linter.unusedVariables false
def iV (x : Int) : Value := .int .i64 x
def bV (x : Bool) : Value := .bool x
theorem Reads.alloc {α : Type} {k : Nat} {c : α → Nat → Value} {w : World} {A : Option Addr} {xs : List α} (h : Reads k c w w.heap.size A xs) (o : Obj) : Reads k c (w.alloc o) (w.alloc o).heap.size A xs :=
  (h.below (Below.alloc (Below.refl _ _) (Nat.le_refl _) o) (Nat.le_refl _)).more (by simp)
/-- Block g is a row that holds xs. -/
def RowL {α : Type} (f : α → Value) (d : α) (w : World) (g : Nat) (T : TypeId) (xs : List α) : Prop := w.rowIs g T xs.length (fun j => f (xs.getD j d))
section
variable {α : Type} {f : α → Value} {d : α} {w w' : World} {g : Nat} {T : TypeId} {xs : List α}
theorem RowL.lt (h : RowL f d w g T xs) : g < w.heap.size := World.rowIs.lt h
theorem RowL.cell (h : RowL f d w g T xs) {i : Nat} (hi : i < xs.length) : w.cell? ⟨g, i, none⟩ = some (f (xs.getD i d)) := World.rowIs.cell h hi
theorem RowL.frozen (h : RowL f d w g T xs) (i : Nat) : w.frozen? ⟨g, i, none⟩ = false := World.rowIs.frozen h i
theorem RowL.of_block (h : RowL f d w g T xs) (e : w'.heap[g]? = w.heap[g]?) : RowL f d w' g T xs := World.rowIs.of_block h e
theorem RowL.below {B : Nat} (h : RowL f d w g T xs) (hb : Below B w w') (hg : g < B) : RowL f d w' g T xs := h.of_block (hb.block g hg)
theorem RowL.keep (h : RowL f d w g T xs) (hb : Below w.heap.size w w') : RowL f d w' g T xs := h.of_block (hb.block g h.lt)
theorem RowL.alloc (h : RowL f d w g T xs) (o : Obj) : RowL f d (w.alloc o) g T xs := h.of_block (Below.heap_alloc w o g h.lt)
theorem RowL.far (h : RowL f d w g T xs) {p : Addr} (hp : g ≠ p.block) (u : Value) : RowL f d (w.setCell p u) g T xs := h.of_block (Below.heap_setCell w p u g hp)
theorem RowL.drewN (h : RowL f d w g T xs) (n : Nat) : RowL f d (w.drewN n) g T xs := h
theorem RowL.drew (h : RowL f d w g T xs) : RowL f d w.drew g T xs := h
theorem RowL.grown {row : Option Nat} (h : RowL f d w g T xs) (hb : w.grownBy w' row) (hg : some g ≠ row) : RowL f d w' g T xs := h.of_block (hb.block g h.lt hg)
theorem RowL.set (h : RowL f d w g T xs) {i : Nat} (hi : i < xs.length) (x : α) : RowL f d (w.setCell ⟨g, i, none⟩ (f x)) g T (xs.set i x) := by
  unfold RowL at *
  rw [List.length_set]
  refine (World.rowIs.set h i (f x)).congr (fun j hj => ?_)
  rw [List.getD_eq_getElem?_getD, List.getD_eq_getElem?_getD, List.getElem?_set]
  by_cases e : j = i
  · subst e; rw [if_pos rfl, if_pos rfl, if_pos hi]; rfl
  · rw [if_neg e, if_neg (fun q => e q.symm)]
theorem RowL.set_eq {i : Nat} {x : α} {v : Value} {ys : List α} (h : RowL f d w g T xs) (hi : i < xs.length) (hv : v = f x) (hy : ys = xs.set i x) : RowL f d (w.setCell ⟨g, i, none⟩ v) g T ys := by
  subst hv; subst hy; exact h.set hi x
theorem RowL.congr {ys : List α} (h : RowL f d w g T xs) (e : xs = ys) : RowL f d w g T ys := e ▸ h
/-- A row whose cells are told by a function. -/
theorem RowL.of_row {n : Nat} {u : Nat → Value} (h : w.rowIs g T n u) (hn : xs.length = n) (hu : ∀ i, i < n → u i = f (xs.getD i d)) : RowL f d w g T xs := by
  unfold RowL; rw [hn]; exact h.congr hu
theorem RowL.made (w : World) (n : Nat) (T : TypeId) : RowL f d (w.alloc (.cells (madeCells #[f d] n) T)) w.heap.size T (List.replicate n d) := by
  refine RowL.of_row (n := n) (u := fun _ => f d) ?_ (by simp) (fun i hi => ?_)
  · have := World.rowIs_alloc w (madeCells #[f d] n) T (fun _ => f d) (fun i hi => ?_)
    · rw [size_madeCells] at this; simpa using this
    · rw [size_madeCells] at hi
      unfold madeCells
      simp at hi ⊢
      simp [hi, Nat.mod_one]
  · rw [List.getD_eq_getElem?_getD, List.getElem?_replicate]; split <;> rfl
end
section
variable {w : World} {g : Nat} {T : TypeId}
theorem RowL.readsI {xs : List Int} (h : RowL iV 0 w g T xs) : Reads 1 intC w w.heap.size (some ⟨g, 0, none⟩) xs := by
  refine .inr ⟨g, 0, rfl, h.lt, fun i x hx j hj => ?_⟩
  obtain ⟨hi, e⟩ := getElem?_of_lt hx
  obtain rfl : j = 0 := by omega
  rw [Nat.zero_add, Nat.mul_one, Nat.add_zero, h.cell hi, List.getD_eq_getElem?_getD, hx]
  rfl
theorem RowL.resI {xs : List Int} {B n c : Nat} (h : RowL iV 0 w g T xs) (hB : B ≤ g) (hn : n = xs.length) : Res 1 intC T w B (.slice (some ⟨g, 0, none⟩) n c) xs := by
  refine Res.of_row hB h hn (by simp) (fun i x hx j hj => ?_)
  obtain rfl : j = 0 := by omega
  rw [Nat.mul_one, Nat.add_zero, List.getD_eq_getElem?_getD, hx]
  rfl
theorem RowL.readsB {xs : List Bool} (h : RowL bV false w g T xs) : Reads 1 boolC w w.heap.size (some ⟨g, 0, none⟩) xs := by
  refine .inr ⟨g, 0, rfl, h.lt, fun i x hx j hj => ?_⟩
  obtain ⟨hi, e⟩ := getElem?_of_lt hx
  obtain rfl : j = 0 := by omega
  rw [Nat.zero_add, Nat.mul_one, Nat.add_zero, h.cell hi, List.getD_eq_getElem?_getD, hx]
  rfl
theorem RowL.resB {xs : List Bool} {B n c : Nat} (h : RowL bV false w g T xs) (hB : B ≤ g) (hn : n = xs.length) : Res 1 boolC T w B (.slice (some ⟨g, 0, none⟩) n c) xs := by
  refine Res.of_row hB h hn (by simp) (fun i x hx j hj => ?_)
  obtain rfl : j = 0 := by omega
  rw [Nat.mul_one, Nat.add_zero, List.getD_eq_getElem?_getD, hx]
  rfl
end
/-- From a slice of the call's own, as it was returned: its row, if it is not empty. -/
theorem Res.rowI {w : World} {B : Nat} {T : TypeId} {A : Option Addr} {n c : Nat} {xs : List Int} (h : Res 1 intC T w B (.slice A n c) xs) (h0 : xs ≠ []) : ∃ g m f, A = some ⟨g, 0, none⟩ ∧ B ≤ g ∧ w.rowIs g T m f ∧ xs.length ≤ m ∧ ∀ i, i < xs.length → f i = iV (xs.getD i 0) := by
  obtain ⟨A', c', e, h⟩ := h
  injection e with e1 e2 e3
  subst e1
  rcases h with h | ⟨g, m, f, hA, hB, hr, hm, hf⟩
  · exact absurd h h0
  · refine ⟨g, m, f, hA, hB, hr, by omega, fun i hi => ?_⟩
    have := hf i xs[i] (List.getElem?_eq_getElem hi) 0 (by omega)
    rw [Nat.mul_one, Nat.add_zero] at this
    rw [this, List.getD_eq_getElem?_getD, List.getElem?_eq_getElem hi]; rfl
end Go.Proofs.Ytdfgdeccejcpfaa
