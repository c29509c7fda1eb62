/- Nets that are being drawn, with their lines alone. No program is in sight here. -/
import Derived.Test.YtdfgdeccejcpfaaDoorRad
namespace Go.Proofs.YtdfgdeccejcpfaaDoor
open Go.RowKit Go.Deep
set_option linter.unusedSimpArgs false
set_option linter.unusedVariables false
structure NetW (w : World) (g4 g7 : Nat) (B : Int) (lv : Value) (ls : List R3) : Prop where
  res : Bk w g4 25 #[.int .i64 0, .slice none 0 0]
  net : Bk w g7 25 #[.int .i64 B, lv]
  lns : Own 3 r3C 58 w (g7 + 1) lv ls
section
variable {w w' : World} {g g4 g7 : Nat} {B : Int} {lv lv' : Value} {ls : List R3} {o : Obj}
theorem NetW.chg (h : NetW w g4 g7 B lv ls) (hc : Chg g w w') (h1 : g < g4) (h2 : g < g7) : NetW w' g4 g7 B lv ls := ⟨hc.bk h.res (by omega), hc.bk h.net (by omega), h.lns.chg hc (by omega)⟩
theorem NetW.drew (h : NetW w g4 g7 B lv ls) : NetW w.drew g4 g7 B lv ls := ⟨h.res, h.net, h.lns.drew⟩
theorem NetW.alloc (h : NetW w g4 g7 B lv ls) (o : Obj) : NetW (w.alloc o) g4 g7 B lv ls := ⟨h.res.alloc o, h.net.alloc o, h.lns.alloc o⟩
theorem NetW.netL (h : NetW w g4 g7 B lv ls) (hg : (w.alloc o).grownBy w' lv.ownBlock) : Bk w' g7 25 #[.int .i64 B, lv] :=
  (h.net.alloc o).grown hg (fun e => by have := (h.lns.blk g7 e.symm).1; omega)
theorem NetW.pushL (h : NetW w g4 g7 B lv ls) (h4 : g4 < g7) {x : R3} (ho : Own 3 r3C 58 w' (g7 + 1) lv' (ls ++ [x])) (hg : (w.alloc o).grownBy w' lv.ownBlock) : NetW (w'.setCell ⟨g7, 1, none⟩ lv') g4 g7 B lv' (ls ++ [x]) := by
  have hlt : ∀ q, q ≤ g7 → some q ≠ lv.ownBlock := fun q hq e => by have := (h.lns.blk q e.symm).1; omega
  refine ⟨((h.res.alloc o).grown hg (hlt _ (by omega))).far (p := ⟨g7, 1, none⟩) (by simp; omega) _, ?_, ho.farN (p := ⟨g7, 1, none⟩) (fun q hq e => by have := (ho.blk q hq).1; have e : q = g7 := e; omega) _⟩
  have := ((h.net.alloc o).grown hg (hlt _ (by omega))).set 1 lv'
  simpa using this
theorem NetW.setB (h : NetW w g4 g7 B lv ls) (h4 : g4 < g7) (x : Int) : NetW (w.setCell ⟨g7, 0, none⟩ (.int .i64 x)) g4 g7 x lv ls := by
  refine ⟨h.res.far (p := ⟨g7, 0, none⟩) (by simp; omega) _, ?_, h.lns.farN (p := ⟨g7, 0, none⟩) (fun q hq e => by have := (h.lns.blk q hq).1; have e : q = g7 := e; omega) _⟩
  have := h.net.set 0 (.int .i64 x)
  simpa using this
end
/-- A net was drawn. -/
def DrawnNt (g : Nat) (P : Int) (w : World) (e : Ending) (w' : World) : Prop :=
  ∃ (B : Int) (A1 : Option Addr) (c1 : Nat) (ls : List R3), e = .returned (.agg #[.int .i64 B, .slice A1 ls.length c1]) ∧ -1 ≤ B ∧ B ≤ 9 ∧ ls.length ≤ 20 ∧ DrS 3 r3C w' w.heap.size (.slice A1 ls.length c1) ls ∧ RdOk 83 w' g (P + 60) ∧ Chg g w w'
theorem net_fin {g g7 : Nat} {P Q : Int} {w wx : World} {B : Int} {lA : Option Addr} {ln lc : Nat} {ls : List R3} {a b : Value} (hl : DrS 3 r3C wx (g7 + 1) (.slice lA ln lc) ls)
    (hr : RdOk 83 wx g Q) (hQ : Q ≤ P + 60) (hc : Chg g w wx) (hg : g < w.heap.size) (h7 : w.heap.size < g7) (h1 : -1 ≤ B) (h2 : B ≤ 9) (h3 : ls.length ≤ 20) :
    DrawnNt g P w (.returned (.agg #[.int .i64 B, .slice lA ln lc])) ((wx.setCell ⟨w.heap.size, 0, none⟩ a).setCell ⟨w.heap.size, 1, none⟩ b) := by
  obtain rfl := hl.reads.2
  exact ⟨B, lA, _, ls, rfl, h1, h2, h3, ((hl.setLow (p := ⟨w.heap.size, 0, none⟩) (by simp; omega) a).setLow (p := ⟨w.heap.size, 1, none⟩) (by simp; omega) b).mono (by omega), ((hr.set_new hg _).set_new hg _).more hQ, (hc.set_new (Nat.le_refl _) _).set_new (Nat.le_refl _) _⟩
end Go.Proofs.YtdfgdeccejcpfaaDoor
