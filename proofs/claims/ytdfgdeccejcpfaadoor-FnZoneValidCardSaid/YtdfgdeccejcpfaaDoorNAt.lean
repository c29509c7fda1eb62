/- A net in a block of its own. No program is in sight here. -/
import Derived.Test.YtdfgdeccejcpfaaDoorRad
namespace Go.Proofs.YtdfgdeccejcpfaaDoor
open Go.RowKit Go.Deep
set_option linter.unusedSimpArgs false
set_option linter.unusedVariables false

theorem reads_allocZ {α : Type} {k : Nat} {c : α → Nat → Value} {w : World} {A : Option Addr} {xs : List α} (h : Reads k c w w.heap.size A xs) (o : Obj) : Reads k c (w.alloc o) (w.alloc o).heap.size A xs :=
  (h.below (Below.alloc (Below.refl w.heap.size w) (Nat.le_refl _) o) (Nat.le_refl _)).more (by simp)
/-- A net at the block g. -/
def NetAt (w : World) (g : Nat) (B : Int) (v : Value) : Prop := Bk w g 25 #[.int .i64 B, v]
theorem NetAt.below {w w' : World} {g : Nat} {B : Int} {v : Value} (h : NetAt w g B v) (hb : Below w.heap.size w w') : NetAt w' g B v := Bk.keep h hb
theorem NetAt.c0 {w : World} {g : Nat} {B : Int} {v : Value} (h : NetAt w g B v) : w.cell? ⟨g, 0, none⟩ = some (.int .i64 B) := Bk.cell h 0
theorem NetAt.c1 {w : World} {g : Nat} {B : Int} {v : Value} (h : NetAt w g B v) : w.cell? ⟨g, 1, none⟩ = some v := Bk.cell h 1
theorem NetAt.lt {w : World} {g : Nat} {B : Int} {v : Value} (h : NetAt w g B v) : g < w.heap.size := Bk.lt h
theorem DrS.allocZ {α : Type} {k : Nat} {c : α → Nat → Value} {w : World} {B : Nat} {v : Value} {xs : List α} (h : DrS k c w B v xs) (o : Obj) : DrS k c (w.alloc o) B v xs := h.below (Below.alloc (Below.refl w.heap.size w) (Nat.le_refl _) o)
end Go.Proofs.YtdfgdeccejcpfaaDoor
