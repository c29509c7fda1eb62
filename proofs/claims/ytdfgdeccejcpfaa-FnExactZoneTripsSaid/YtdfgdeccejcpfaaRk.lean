/- Structs of two, three, four ints. No program is in sight here. -/
import Derived.Test.YtdfgdeccejcpfaaBk
namespace Go.Proofs.Ytdfgdeccejcpfaa
open Go.RowKit Go.ChangeShapes Go.WideShapes Go.Deep
set_option linter.unusedSimpArgs false
set_option linter.unusedVariables false
structure R2 where
  a : Int
  b : Int
structure R3 where
  a : Int
  b : Int
  c : Int
structure R4 where
  a : Int
  b : Int
  c : Int
  d : Int
def r2C (x : R2) (j : Nat) : Value := if j = 0 then .int .i64 x.a else .int .i64 x.b
def r3C (x : R3) (j : Nat) : Value := if j = 0 then .int .i64 x.a else if j = 1 then .int .i64 x.b else .int .i64 x.c
def r4C (x : R4) (j : Nat) : Value := if j = 0 then .int .i64 x.a else if j = 1 then .int .i64 x.b else if j = 2 then .int .i64 x.c else .int .i64 x.d
abbrev v2 (x : R2) : Value := .agg #[.int .i64 x.a, .int .i64 x.b]
abbrev v3 (x : R3) : Value := .agg #[.int .i64 x.a, .int .i64 x.b, .int .i64 x.c]
abbrev v4 (x : R4) : Value := .agg #[.int .i64 x.a, .int .i64 x.b, .int .i64 x.c, .int .i64 x.d]
def G2 (x : R2) : Prop := I64 x.a ∧ I64 x.b
def G3 (x : R3) : Prop := I64 x.a ∧ I64 x.b ∧ I64 x.c
def G4 (x : R4) : Prop := I64 x.a ∧ I64 x.b ∧ I64 x.c ∧ I64 x.d
theorem Reads.at2 {w : World} {B : Nat} {A : Option Addr} {xs : List R2} (h : Reads 2 r2C w B A xs) {i : Nat} (hi : i < xs.length) :
    ∃ b off, A = some ⟨b, off, none⟩ ∧ b < B ∧ w.cell? ⟨b, off + i * 2, none⟩ = some (.int .i64 xs[i].a) ∧ w.cell? ⟨b, off + i * 2 + 1, none⟩ = some (.int .i64 xs[i].b) := by
  obtain ⟨b, off, hA, hb, hc⟩ := h.at_ hi
  exact ⟨b, off, hA, hb, hc 0 (by omega), hc 1 (by omega)⟩
theorem Reads.at3 {w : World} {B : Nat} {A : Option Addr} {xs : List R3} (h : Reads 3 r3C w B A xs) {i : Nat} (hi : i < xs.length) :
    ∃ b off, A = some ⟨b, off, none⟩ ∧ b < B ∧ w.cell? ⟨b, off + i * 3, none⟩ = some (.int .i64 xs[i].a) ∧ w.cell? ⟨b, off + i * 3 + 1, none⟩ = some (.int .i64 xs[i].b) ∧ w.cell? ⟨b, off + i * 3 + 2, none⟩ = some (.int .i64 xs[i].c) := by
  obtain ⟨b, off, hA, hb, hc⟩ := h.at_ hi
  exact ⟨b, off, hA, hb, hc 0 (by omega), hc 1 (by omega), hc 2 (by omega)⟩
theorem Reads.at4 {w : World} {B : Nat} {A : Option Addr} {xs : List R4} (h : Reads 4 r4C w B A xs) {i : Nat} (hi : i < xs.length) :
    ∃ b off, A = some ⟨b, off, none⟩ ∧ b < B ∧ w.cell? ⟨b, off + i * 4, none⟩ = some (.int .i64 xs[i].a) ∧ w.cell? ⟨b, off + i * 4 + 1, none⟩ = some (.int .i64 xs[i].b) ∧ w.cell? ⟨b, off + i * 4 + 2, none⟩ = some (.int .i64 xs[i].c) ∧ w.cell? ⟨b, off + i * 4 + 3, none⟩ = some (.int .i64 xs[i].d) := by
  obtain ⟨b, off, hA, hb, hc⟩ := h.at_ hi
  exact ⟨b, off, hA, hb, hc 0 (by omega), hc 1 (by omega), hc 2 (by omega), hc 3 (by omega)⟩
theorem reads_nil {α : Type} {k : Nat} {c : α → Nat → Value} {w : World} {B : Nat} {A : Option Addr} : Reads k c w B A [] := Or.inl rfl
section
variable {H : Type} {enc : TypeId × Value → H} {P : Program} {w : World}
theorem good_R2 {e : TypeId} {fs : Array Field} (he : P.underlying e = some (.struct fs)) (hone : oneCellFields P fs = true) (hs : fs.size = 2) (hC : P.cellsOf e = 2) (hint : ∀ (i : Nat) (f : Field), fs[i]? = some f → P.underlying f.type = some (.int .i64))
    (n : Nat) (cs : List Value) (y : DataW H × List MemPlace) (h : DataW.trod enc P w 0 (fun _ => true) true n e cs = some y) : ∃ x : R2, G2 x ∧ ∀ j, j < 2 → cs[j]? = some (r2C x j) := by
  obtain ⟨zs, rfl, hl, hw⟩ := ints_of_struct he hone (hC.trans hs.symm) hint h
  rw [hs] at hl
  rcases zs with _ | ⟨z0, _ | ⟨z1, _ | ⟨z2, zs⟩⟩⟩
  · simp at hl
  · simp at hl
  · refine ⟨⟨z0, z1⟩, ⟨hw _ (by simp), hw _ (by simp)⟩, fun j hj => ?_⟩
    rcases j with _ | _ | j
    · rfl
    · rfl
    · omega
  · simp at hl
theorem good_R3 {e : TypeId} {fs : Array Field} (he : P.underlying e = some (.struct fs)) (hone : oneCellFields P fs = true) (hs : fs.size = 3) (hC : P.cellsOf e = 3) (hint : ∀ (i : Nat) (f : Field), fs[i]? = some f → P.underlying f.type = some (.int .i64))
    (n : Nat) (cs : List Value) (y : DataW H × List MemPlace) (h : DataW.trod enc P w 0 (fun _ => true) true n e cs = some y) : ∃ x : R3, G3 x ∧ ∀ j, j < 3 → cs[j]? = some (r3C x j) := by
  obtain ⟨zs, rfl, hl, hw⟩ := ints_of_struct he hone (hC.trans hs.symm) hint h
  rw [hs] at hl
  rcases zs with _ | ⟨z0, _ | ⟨z1, _ | ⟨z2, _ | ⟨z3, zs⟩⟩⟩⟩
  · simp at hl
  · simp at hl
  · simp at hl
  · refine ⟨⟨z0, z1, z2⟩, ⟨hw _ (by simp), hw _ (by simp), hw _ (by simp)⟩, fun j hj => ?_⟩
    rcases j with _ | _ | _ | j
    · rfl
    · rfl
    · rfl
    · omega
  · simp at hl
theorem good_R4 {e : TypeId} {fs : Array Field} (he : P.underlying e = some (.struct fs)) (hone : oneCellFields P fs = true) (hs : fs.size = 4) (hC : P.cellsOf e = 4) (hint : ∀ (i : Nat) (f : Field), fs[i]? = some f → P.underlying f.type = some (.int .i64))
    (n : Nat) (cs : List Value) (y : DataW H × List MemPlace) (h : DataW.trod enc P w 0 (fun _ => true) true n e cs = some y) : ∃ x : R4, G4 x ∧ ∀ j, j < 4 → cs[j]? = some (r4C x j) := by
  obtain ⟨zs, rfl, hl, hw⟩ := ints_of_struct he hone (hC.trans hs.symm) hint h
  rw [hs] at hl
  rcases zs with _ | ⟨z0, _ | ⟨z1, _ | ⟨z2, _ | ⟨z3, _ | ⟨z4, zs⟩⟩⟩⟩⟩
  · simp at hl
  · simp at hl
  · simp at hl
  · simp at hl
  · refine ⟨⟨z0, z1, z2, z3⟩, ⟨hw _ (by simp), hw _ (by simp), hw _ (by simp), hw _ (by simp)⟩, fun j hj => ?_⟩
    rcases j with _ | _ | _ | _ | j
    · rfl
    · rfl
    · rfl
    · rfl
    · omega
  · simp at hl
end
/-- Zero cells of a new row of structs. -/
theorem made_zero (k : Nat) (hk : 0 < k) (n : Nat) : ∀ i, i < (madeCells (Array.replicate k (Value.int .i64 0)) n).size → (madeCells (Array.replicate k (Value.int .i64 0)) n)[i]? = some (Value.int .i64 0) := by
  intro i hi
  rw [size_madeCells] at hi
  unfold madeCells
  simp [hi, Nat.mod_lt _ hk]
theorem row_made (w : World) (k : Nat) (hk : 0 < k) (n : Nat) (t : TypeId) : (w.alloc (.cells (madeCells (Array.replicate k (Value.int .i64 0)) n) t)).rowIs w.heap.size t n (fun _ => .int .i64 0) := by
  have := World.rowIs_alloc w (madeCells (Array.replicate k (Value.int .i64 0)) n) t (fun _ => .int .i64 0) (made_zero k hk n)
  rwa [size_madeCells] at this
end Go.Proofs.Ytdfgdeccejcpfaa
