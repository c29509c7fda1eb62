/- Nets that are being drawn: the block of the net, and the three lists. No program is in sight here. -/
import Derived.Test.YtdfgdeccejcpfaaDoorDrL
import Derived.Test.YtdfgdeccejcpfaaDoorOwn
namespace Go.Proofs.YtdfgdeccejcpfaaDoor
open Go.RowKit Go.Deep
set_option linter.unusedSimpArgs false
set_option linter.unusedVariables false

theorem Own.farN {α : Type} {k : Nat} {c : α → Nat → Value} {T : TypeId} {v : Value} {xs : List α} {w : World} {B0 : Nat} (h : Own k c T w B0 v xs) {p : Addr} (hp : ∀ q, v.ownBlock = some q → q ≠ p.block) (u : Value) : Own k c T (w.setCell p u) B0 v xs :=
  h.keep_at (by simp [World.setCell]) rfl rfl rfl fun b hb => Below.heap_setCell w p u b (hp b hb)
theorem Chg.drewL {g : Nat} {a w : World} (h : Chg g a w) : Chg g a w.drew := ⟨h.os, h.tape, h.output, h.size, h.block⟩
/-- Two slices lie in different blocks. -/
def Apart (v u : Value) : Prop := ∀ q, v.ownBlock = some q → u.ownBlock ≠ some q
theorem Apart.symm {v u : Value} (h : Apart v u) : Apart u v := fun q h1 h2 => h q h2 h1
section
variable {α : Type} {k : Nat} {c : α → Nat → Value} {T : TypeId} {w w' : World} {B0 : Nat} {v v' u : Value} {ys : List α} {o : Obj}
theorem Own.apart (h : Own k c T w B0 u ys) (hne : Apart v u) (hg : (w.alloc o).grownBy w' v.ownBlock) : Own k c T w' B0 u ys :=
  (h.alloc o).keep_at hg.size hg.os hg.tape hg.output fun b hb => hg.block b (by have := (h.blk b hb).2; simp only [World.size_alloc]; omega) (fun e => hne b e.symm hb)
theorem Apart.grown (h : Own k c T w B0 u ys) (hne : Apart v u) (hat : v'.ownBlock = v.ownBlock ∨ v'.ownBlock = some (w.alloc o).heap.size) : Apart v' u := fun q h1 h2 => by
  have := (h.blk q h2).2
  rcases hat with e | e
  · rw [e] at h1; exact hne q h1 h2
  · rw [e] at h1; injection h1 with h1; simp only [World.size_alloc] at h1; omega
end
/-- The net at block g7 and its lists; the result's block is g4. -/
structure RadW (w : World) (g4 g7 : Nat) (B : Int) (lv ov bv : Value) (ls : List R3) (on : List Bool) (bs : List R2) : Prop where
  res : Bk w g4 25 #[.int .i64 0, .slice none 0 0]
  net : Bk w g7 25 #[.int .i64 B, lv]
  lns : Own 3 r3C 58 w (g7 + 1) lv ls
  ons : Own 1 boolC 4 w (g7 + 1) ov on
  bss : Own 2 r2C 68 w (g7 + 1) bv bs
  lo : Apart lv ov
  lb : Apart lv bv
  ob : Apart ov bv
section
variable {w w' : World} {g g4 g7 : Nat} {B : Int} {lv ov bv lv' ov' bv' : Value} {ls : List R3} {on : List Bool} {bs : List R2} {o : Obj}
theorem RadW.chg (h : RadW w g4 g7 B lv ov bv ls on bs) (hc : Chg g w w') (h1 : g < g4) (h2 : g < g7) : RadW w' g4 g7 B lv ov bv ls on bs :=
  ⟨hc.bk h.res (by omega), hc.bk h.net (by omega), h.lns.chg hc (by omega), h.ons.chg hc (by omega), h.bss.chg hc (by omega), h.lo, h.lb, h.ob⟩
theorem RadW.drew (h : RadW w g4 g7 B lv ov bv ls on bs) : RadW w.drew g4 g7 B lv ov bv ls on bs := ⟨h.res, h.net, h.lns.drew, h.ons.drew, h.bss.drew, h.lo, h.lb, h.ob⟩
theorem RadW.pushO (h : RadW w g4 g7 B lv ov bv ls on bs) (h4 : g4 < g7) {x : Bool} (ho : Own 1 boolC 4 w' (g7 + 1) ov' (on ++ [x])) (hg : (w.alloc o).grownBy w' ov.ownBlock) (hat : ov'.ownBlock = ov.ownBlock ∨ ov'.ownBlock = some (w.alloc o).heap.size) :
    RadW w' g4 g7 B lv ov' bv ls (on ++ [x]) bs := by
  have hlt : ∀ q, q ≤ g7 → some q ≠ ov.ownBlock := fun q hq e => by have := (h.ons.blk q e.symm).1; omega
  exact ⟨(h.res.alloc o).grown hg (hlt _ (by omega)), (h.net.alloc o).grown hg (hlt _ (by omega)), h.lns.apart h.lo.symm hg, ho, h.bss.apart h.ob hg, (Apart.grown h.lns h.lo.symm hat).symm, h.lb, Apart.grown h.bss h.ob hat⟩
theorem RadW.pushB (h : RadW w g4 g7 B lv ov bv ls on bs) (h4 : g4 < g7) {x : R2} (ho : Own 2 r2C 68 w' (g7 + 1) bv' (bs ++ [x])) (hg : (w.alloc o).grownBy w' bv.ownBlock) (hat : bv'.ownBlock = bv.ownBlock ∨ bv'.ownBlock = some (w.alloc o).heap.size) :
    RadW w' g4 g7 B lv ov bv' ls on (bs ++ [x]) := by
  have hlt : ∀ q, q ≤ g7 → some q ≠ bv.ownBlock := fun q hq e => by have := (h.bss.blk q e.symm).1; omega
  exact ⟨(h.res.alloc o).grown hg (hlt _ (by omega)), (h.net.alloc o).grown hg (hlt _ (by omega)), h.lns.apart h.lb.symm hg, h.ons.apart h.ob.symm hg, ho, h.lo, (Apart.grown h.lns h.lb.symm hat).symm, (Apart.grown h.ons h.ob.symm hat).symm⟩
theorem RadW.pushL (h : RadW w g4 g7 B lv ov bv ls on bs) (h4 : g4 < g7) {x : R3} (ho : Own 3 r3C 58 w' (g7 + 1) lv' (ls ++ [x])) (hg : (w.alloc o).grownBy w' lv.ownBlock) (hat : lv'.ownBlock = lv.ownBlock ∨ lv'.ownBlock = some (w.alloc o).heap.size) :
    RadW (w'.setCell ⟨g7, 1, none⟩ lv') g4 g7 B lv' ov bv (ls ++ [x]) on bs := by
  have hlt : ∀ q, q ≤ g7 → some q ≠ lv.ownBlock := fun q hq e => by have := (h.lns.blk q e.symm).1; omega
  have hf : ∀ {α : Type} {k : Nat} {c : α → Nat → Value} {T : TypeId} {v : Value} {xs : List α} {w : World}, Own k c T w (g7 + 1) v xs → Own k c T (w.setCell ⟨g7, 1, none⟩ lv') (g7 + 1) v xs := fun h => h.farN (p := ⟨g7, 1, none⟩) (fun q hq e => by have := (h.blk q hq).1; have e : q = g7 := e; omega) _
  refine ⟨((h.res.alloc o).grown hg (hlt _ (by omega))).far (p := ⟨g7, 1, none⟩) (by simp; omega) _, ?_, hf ho, hf (h.ons.apart h.lo hg), hf (h.bss.apart h.lb hg), Apart.grown h.ons h.lo hat, Apart.grown h.bss h.lb hat, h.ob⟩
  have := ((h.net.alloc o).grown hg (hlt _ (by omega))).set 1 lv'
  simpa using this
theorem RadW.netL (h : RadW w g4 g7 B lv ov bv ls on bs) (hg : (w.alloc o).grownBy w' lv.ownBlock) : Bk w' g7 25 #[.int .i64 B, lv] :=
  (h.net.alloc o).grown hg (fun e => by have := (h.lns.blk g7 e.symm).1; omega)
/-- A store into the list of the buses. -/
theorem RadW.setB {q n cp : Nat} (h : RadW w g4 g7 B lv ov (.slice (some ⟨q, 0, none⟩) n cp) ls on bs) (h4 : g4 < g7) {i : Nat} (hi : i < bs.length) (x : Int) :
    g7 < q ∧ q < w.heap.size ∧ (∀ j, w.frozen? ⟨q, j, none⟩ = false) ∧ (∃ v, w.cell? ⟨q, i * 2, none⟩ = some v) ∧ ∃ bs', bs'.length = bs.length ∧ RadW (w.setCell ⟨q, i * 2, none⟩ (.int .i64 x)) g4 g7 B lv ov (.slice (some ⟨q, 0, none⟩) n cp) ls on bs' := by
  obtain ⟨g, e, hB, hz, hc, hf⟩ := h.bss.at_ hi (by omega)
  injection e with e; injection e with e; subst e
  refine ⟨by omega, hz, hf, ⟨_, by have := hc 0 (by omega); rw [Nat.add_zero] at this; exact this⟩, bs.set i ⟨x, bs[i].b⟩, by simp, ?_⟩
  have e := h.bss.setj (i := i) (j := 0) hi (by omega) (x := (⟨x, bs[i].b⟩ : R2)) (fun r hr hne => by (have h1 : r = 1 := (by omega)); subst h1; rfl)
  rw [Nat.add_zero] at e
  exact ⟨h.res.far (p := ⟨q, i * 2, none⟩) (by simp; omega) _, h.net.far (p := ⟨q, i * 2, none⟩) (by simp; omega) _, h.lns.farN (p := ⟨q, i * 2, none⟩) (fun r hr e => h.lb r hr (by have e : r = q := e; rw [e]; rfl)) _, h.ons.farN (p := ⟨q, i * 2, none⟩) (fun r hr e => h.ob r hr (by have e : r = q := e; rw [e]; rfl)) _, e, h.lo, h.lb, h.ob⟩
/-- A store into the list of the lines' states. -/
theorem RadW.setO {q n cp : Nat} (h : RadW w g4 g7 B lv (.slice (some ⟨q, 0, none⟩) n cp) bv ls on bs) (h4 : g4 < g7) {i : Nat} (hi : i < on.length) (x : Bool) :
    g7 < q ∧ q < w.heap.size ∧ (∀ j, w.frozen? ⟨q, j, none⟩ = false) ∧ (∃ v, w.cell? ⟨q, i, none⟩ = some v) ∧ RadW (w.setCell ⟨q, i, none⟩ (.bool x)) g4 g7 B lv (.slice (some ⟨q, 0, none⟩) n cp) bv ls (on.set i x) bs := by
  obtain ⟨g, e, hB, hz, hc, hf⟩ := h.ons.at1 hi
  injection e with e; injection e with e; subst e
  exact ⟨by omega, hz, hf, ⟨_, hc⟩, h.res.far (p := ⟨q, i, none⟩) (by simp; omega) _, h.net.far (p := ⟨q, i, none⟩) (by simp; omega) _, h.lns.farN (p := ⟨q, i, none⟩) (fun r hr e => h.lo r hr (by have e : r = q := e; rw [e]; rfl)) _, h.ons.set1 hi x, h.bss.farN (p := ⟨q, i, none⟩) (fun r hr e => h.ob r (by have e : r = q := e; rw [e]; rfl) hr) _, h.lo, h.lb, h.ob⟩
theorem Own.some_at {α : Type} {k : Nat} {c : α → Nat → Value} {T : TypeId} {v : Value} {xs : List α} {w : World} {B0 : Nat} (h : Own k c T w B0 v xs) (hn : 0 < xs.length) (hk : 0 < k) : ∃ q cp, v = .slice (some ⟨q, 0, none⟩) xs.length cp := by
  obtain ⟨A, cp, rfl⟩ := h.slice
  obtain ⟨g, rfl, _⟩ := h.at_ hn hk
  exact ⟨g, cp, rfl⟩
end
theorem rdG {T : TypeId} {α : Type} {k : Nat} {c : α → Nat → Value} {TT : TypeId} {v : Value} {xs : List α} {w w' : World} {g g7 : Nat} {P : Int} {o : Obj} (hr : RdOk T w g P) (own : Own k c TT w (g7 + 1) v xs) (hgg : g < g7) (hg : (w.alloc o).grownBy w' v.ownBlock) : RdOk T w' g P :=
  (hr.alloc o).grown hg (fun q hq => by have := (own.blk q hq).1; omega)
theorem chG {α : Type} {k : Nat} {c : α → Nat → Value} {TT : TypeId} {v : Value} {xs : List α} {a w w' : World} {g g7 : Nat} {o : Obj} (hc : Chg g a w) (own : Own k c TT w (g7 + 1) v xs) (ha : a.heap.size ≤ g7) (hg : (w.alloc o).grownBy w' v.ownBlock) : Chg g a w' :=
  (hc.alloc o).grown hg (fun q hq => by have := (own.blk q hq).1; omega)
theorem DrS.setLow {α : Type} {k : Nat} {c : α → Nat → Value} {w : World} {B : Nat} {v : Value} {xs : List α} (h : DrS k c w B v xs) {p : Addr} (hp : p.block < B) (u : Value) : DrS k c (w.setCell p u) B v xs :=
  h.kept (by simp) (fun b hb _ => Below.heap_setCell w p u b (by omega))
/-- A net, its lines' states and its buses were drawn. -/
def DrawnR (g : Nat) (P : Int) (w : World) (e : Ending) (w' : World) : Prop :=
  ∃ (nb : Nat) (A1 A2 A3 : Option Addr) (c1 c2 c3 : Nat) (ls : List R3) (on : List Bool) (bs : List R2), e = .returned (.tuple #[.agg #[.int .i64 (nb : Int), .slice A1 ls.length c1], .slice A2 on.length c2, .slice A3 bs.length c3]) ∧ 2 ≤ nb ∧ nb ≤ 7 ∧ ls.length ≤ 20 ∧ on.length ≤ 20 ∧ bs.length ≤ 20 ∧
    DrS 3 r3C w' w.heap.size (.slice A1 ls.length c1) ls ∧ DrS 1 boolC w' w.heap.size (.slice A2 on.length c2) on ∧ DrS 2 r2C w' w.heap.size (.slice A3 bs.length c3) bs ∧ RdOk 83 w' g (P + 100) ∧ Chg g w w'
theorem rad_fin {g g7 : Nat} {P Q : Int} {w wx : World} {nb : Nat} {lA oA bA : Option Addr} {ln onn bn lc oc bc : Nat} {ls : List R3} {on : List Bool} {bs bs' : List R2} {a b bv : Value} (h : RadW wx w.heap.size g7 (nb : Int) (.slice lA ln lc) (.slice oA onn oc) bv ls on bs) (hb : DrS 2 r2C wx (g7 + 1) (.slice bA bn bc) bs')
    (hr : RdOk 83 wx g Q) (hQ : Q ≤ P + 100) (hc : Chg g w wx) (hg : g < w.heap.size) (h7 : w.heap.size < g7) (h1 : 2 ≤ nb) (h2 : nb ≤ 7) (h3 : ls.length ≤ 20) (h4 : on.length ≤ 20) (h5 : bs'.length ≤ 20) :
    DrawnR g P w (.returned (.tuple #[.agg #[.int .i64 (nb : Int), .slice lA ln lc], .slice oA onn oc, .slice bA bn bc])) ((wx.setCell ⟨w.heap.size, 0, none⟩ a).setCell ⟨w.heap.size, 1, none⟩ b) := by
  obtain ⟨_, _, e⟩ := h.lns.slice
  injection e with e1 e2 e3; subst e2
  obtain ⟨_, _, e⟩ := h.ons.slice
  injection e with e1 e2 e3; subst e2
  obtain rfl := hb.reads.2
  have hset : ∀ {α : Type} {k : Nat} {c : α → Nat → Value} {v : Value} {xs : List α}, DrS k c wx (g7 + 1) v xs → DrS k c ((wx.setCell ⟨w.heap.size, 0, none⟩ a).setCell ⟨w.heap.size, 1, none⟩ b) w.heap.size v xs := fun h => ((h.setLow (p := ⟨w.heap.size, 0, none⟩) (by simp; omega) a).setLow (p := ⟨w.heap.size, 1, none⟩) (by simp; omega) b).mono (by omega)
  exact ⟨nb, lA, oA, bA, _, _, _, ls, on, bs', rfl, h1, h2, h3, h4, h5, hset h.lns.drs, hset h.ons.drs, hset hb, ((hr.set_new hg _).set_new hg _).more hQ, (hc.set_new (Nat.le_refl _) _).set_new (Nat.le_refl _) _⟩
end Go.Proofs.YtdfgdeccejcpfaaDoor
