/- A block of memory that is known whole. No program is in sight here. -/
import Derived.Test.YtdfgdeccejcpfaaSl
namespace Go.Proofs.Ytdfgdeccejcpfaa
open Go.RowKit Go.Deep
set_option linter.unusedSimpArgs false
set_option linter.unusedVariables false

/-- Block g is just the cells cs, of element type t. -/
def Bk (w : World) (g : Nat) (t : TypeId) (cs : Array Value) : Prop := w.heap[g]? = some (.cells cs t)
section
variable {w w' : World} {g : Nat} {t : TypeId} {cs : Array Value}
theorem Bk.lt (h : Bk w g t cs) : g < w.heap.size := by
  rcases Nat.lt_or_ge g w.heap.size with h1 | h1
  · exact h1
  · unfold Bk at h; rw [Array.getElem?_eq_none h1] at h; cases h
theorem Bk.cell (h : Bk w g t cs) (i : Nat) : w.cell? ⟨g, i, none⟩ = cs[i]? := by
  unfold Bk at h; simp [World.cell?, h]
theorem Bk.frozen (h : Bk w g t cs) (i : Nat) : w.frozen? ⟨g, i, none⟩ = false := by
  unfold Bk at h; simp [World.frozen?, h]
theorem Bk.of_block (h : Bk w g t cs) (e : w'.heap[g]? = w.heap[g]?) : Bk w' g t cs := e.trans h
theorem Bk.below {B : Nat} (h : Bk w g t cs) (hb : Below B w w') (hg : g < B) : Bk w' g t cs := h.of_block (hb.block g hg)
theorem Bk.keep (h : Bk w g t cs) (hb : Below w.heap.size w w') : Bk w' g t cs := h.of_block (hb.block g h.lt)
theorem Bk.alloc (h : Bk w g t cs) (o : Obj) : Bk (w.alloc o) g t cs := h.of_block (Below.heap_alloc w o g h.lt)
theorem Bk.far (h : Bk w g t cs) {p : Addr} (hp : g ≠ p.block) (u : Value) : Bk (w.setCell p u) g t cs := h.of_block (Below.heap_setCell w p u g hp)
theorem Bk.set (h : Bk w g t cs) (i : Nat) (u : Value) : Bk (w.setCell ⟨g, i, none⟩ u) g t (cs.setIfInBounds i u) := by
  unfold Bk at h ⊢
  simp [World.setCell, Array.getElem?_modify, h]
theorem Bk.drewN (h : Bk w g t cs) (n : Nat) : Bk (w.drewN n) g t cs := h
theorem Bk.new (w : World) (t : TypeId) (cs : Array Value) : Bk (w.alloc (.cells cs t)) w.heap.size t cs := by
  show (w.heap.push _)[w.heap.size]? = _
  simp
theorem Bk.new_at (w : World) (t : TypeId) (cs : Array Value) {g : Nat} (hg : g = w.heap.size) : Bk (w.alloc (.cells cs t)) g t cs := by subst hg; exact Bk.new w t cs
theorem Bk.grown {row : Option Nat} (h : Bk w g t cs) (hb : w.grownBy w' row) (hg : some g ≠ row) : Bk w' g t cs := h.of_block (hb.block g h.lt hg)
end
theorem undrew {B : Nat} {a w : World} (h : Below B a.drew w) : Below B a w := ⟨h.os, h.tape, h.output, h.size, h.block⟩
theorem undrewN {B n : Nat} {a w : World} (h : Below B (a.drewN n) w) : Below B a w := ⟨h.os, h.tape, h.output, h.size, h.block⟩
/-- A call that leaves the world alone, inside a region that draws its order. -/
theorem quietL {P : Program} {f : FuncId} {args : Array Value} {w : World} {n : Nat} {v : Value} (h : Calls P f args (w.drewN n) fun e w' => e = .returned v ∧ w.drewN n = w') : Calls P f args (w.drewN n) fun e w'' => e = .returned v ∧ ∃ m, w'' = w.drewN m :=
  h.mono fun _ _ ⟨he, hm⟩ => ⟨he, n, hm.symm⟩
/-- Four cells stored anew. -/
theorem Bk.set4 {w : World} {g : Nat} {t : TypeId} {x0 x1 x2 x3 y0 y1 y2 y3 : Value} (h : Bk w g t #[x0, x1, x2, x3]) :
    Bk ((((w.setCell ⟨g, 0, none⟩ y0).setCell ⟨g, 1, none⟩ y1).setCell ⟨g, 2, none⟩ y2).setCell ⟨g, 3, none⟩ y3) g t #[y0, y1, y2, y3] := by
  have := (((h.set 0 y0).set 1 y1).set 2 y2).set 3 y3
  simpa using this
theorem Bk.set2 {w : World} {g : Nat} {t : TypeId} {x0 x1 y0 y1 : Value} (h : Bk w g t #[x0, x1]) :
    Bk ((w.setCell ⟨g, 0, none⟩ y0).setCell ⟨g, 1, none⟩ y1) g t #[y0, y1] := by
  have := (h.set 0 y0).set 1 y1
  simpa using this
theorem Bk.set3 {w : World} {g : Nat} {t : TypeId} {x0 x1 x2 y0 y1 y2 : Value} (h : Bk w g t #[x0, x1, x2]) :
    Bk (((w.setCell ⟨g, 0, none⟩ y0).setCell ⟨g, 1, none⟩ y1).setCell ⟨g, 2, none⟩ y2) g t #[y0, y1, y2] := by
  have := ((h.set 0 y0).set 1 y1).set 2 y2
  simpa using this
theorem Bk.far4 {w : World} {g g' : Nat} {t : TypeId} {cs : Array Value} {y0 y1 y2 y3 : Value} (h : Bk w g t cs) (hg : g ≠ g') :
    Bk ((((w.setCell ⟨g', 0, none⟩ y0).setCell ⟨g', 1, none⟩ y1).setCell ⟨g', 2, none⟩ y2).setCell ⟨g', 3, none⟩ y3) g t cs :=
  (((h.far (p := ⟨g', 0, none⟩) hg _).far (p := ⟨g', 1, none⟩) hg _).far (p := ⟨g', 2, none⟩) hg _).far (p := ⟨g', 3, none⟩) hg _
end Go.Proofs.Ytdfgdeccejcpfaa
