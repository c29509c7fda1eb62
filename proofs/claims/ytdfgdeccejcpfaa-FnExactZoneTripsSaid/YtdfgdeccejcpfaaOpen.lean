/- Arguments that came in: a struct of a number and a slice; a slice of slices. No program is in sight here. -/
import Derived.Test.YtdfgdeccejcpfaaRk
namespace Go.Proofs.Ytdfgdeccejcpfaa
open Go.RowKit Go.ChangeShapes Go.WideShapes Go.Deep
set_option linter.unusedSimpArgs false
set_option linter.unusedVariables false
/-- A slice as it stands in a cell, with what it reads as. -/
structure SV where
  A : Option Addr
  c : Nat
  xs : List Int
def svC (s : SV) (_ : Nat) : Value := .slice s.A s.xs.length s.c
def SvOk (w : World) (B : Nat) (s : SV) : Prop := (∀ x ∈ s.xs, I64 x) ∧ s.xs.length ≤ s.c ∧ s.c ≤ maxLen ∧ Reads 1 intC w B s.A s.xs
theorem svC_one (x : SV) (j : Nat) : (svC x j).oneCell' = true := rfl
theorem SvOk.below {w w' : World} {B B' : Nat} {s : SV} (h : SvOk w B s) (hb : Below B' w w') (hB : B ≤ B') : SvOk w' B s := ⟨h.1, h.2.1, h.2.2.1, h.2.2.2.below hb hB⟩
theorem SvOk.more {w : World} {B B' : Nat} {s : SV} (h : SvOk w B s) (hB : B ≤ B') : SvOk w B' s := ⟨h.1, h.2.1, h.2.2.1, h.2.2.2.more hB⟩
section
variable {H : Type} {enc : TypeId × Value → H} {P : Program} {w : World} {base : Nat} {spare : Nat → Bool} {held : Bool}
theorem good_slice {t e : TypeId} (ht : P.underlying t = some (.slice e)) (he : P.underlying e = some (.int .i64)) (hC : P.cellsOf e = 1) (n : Nat) (cs : List Value) (y : DataW H × List MemPlace) (h : DataW.trod enc P w 0 (fun _ => true) true n t cs = some y) :
    ∃ s : SV, SvOk w w.heap.size s ∧ ∀ j, j < 1 → cs[j]? = some (svC s j) := by
  have one : ∀ s : SV, ∀ j, j < 1 → [Value.slice s.A s.xs.length s.c][j]? = some (svC s j) := fun s j hj => by
    have h0 : j = 0 := by omega
    subst h0; rfl
  rcases DataW.trod_slice ht h with ⟨rfl, _⟩ | ⟨a, len, cap, elems, rest, m, _, rfl, _, hb, hl, hm, hlen, hel, hsp, hns⟩
  · have h0 : 0 ≤ maxLen := Nat.zero_le _
    exact ⟨⟨none, 0, []⟩, ⟨by simp, Nat.le_refl _, h0, .inl rfl⟩, one ⟨none, 0, []⟩⟩
  · obtain ⟨xs, e1, g1, l1, m1, r1⟩ := open_row (d := y.1) (p := y.2) (A := some a) (n := len) (c := cap) _ ht hC (by decide) (good_int he) ⟨n, by simpa [Value.cells] using h⟩
    subst e1
    exact ⟨⟨some a, cap, xs⟩, ⟨g1, l1, m1, r1⟩, one ⟨some a, cap, xs⟩⟩
/-- A struct of a number and a slice of structs of ints. -/
theorem open_net {α : Type} {r : Reach} {b0 : Nat} {t te : TypeId} {f0 f1 : Field} {k : Nat} {cells : α → Nat → Value} (Good : α → Prop) {v : Value} {d : DataW H} {p : List MemPlace} (hs : P.underlying t = some (.struct #[f0, f1])) (h0 : f0.offset = 0) (h1 : f1.offset = 1) (hC : P.cellsOf t = 2)
    (hi : P.underlying f0.type = some (.int .i64)) (hc0 : P.cellsOf f0.type = 1) (hsl : P.underlying f1.type = some (.slice te)) (hc1 : P.cellsOf f1.type = 1) (hCe : P.cellsOf te = k) (hk : 0 < k)
    (hg : ∀ (n : Nat) (cs : List Value) (y : DataW H × List MemPlace), DataW.trod enc P w 0 (fun _ => true) true n te cs = some y → ∃ x : α, Good x ∧ ∀ j, j < k → cs[j]? = some (cells x j))
    (hv : Value.okWide P w r b0 t v) (h : DataW.Trod enc P w 0 (fun _ => true) true t v d p) :
    ∃ (B : Int) (A : Option Addr) (n c : Nat) (xs : List α), v = .agg #[.int .i64 B, .slice A n c] ∧ I64 B ∧ xs.length = n ∧ (∀ x ∈ xs, Good x) ∧ n ≤ c ∧ c ≤ maxLen ∧ Reads k cells w w.heap.size A xs := by
  obtain ⟨cs, rfl, hsz⟩ := okWide_struct hs hv
  obtain ⟨fuel, hf⟩ := h
  obtain ⟨y0, y1, m, _, hl, t0, t1⟩ := trod_struct2 hs hf
  rw [h0, hc0] at t0
  rw [h1, hc1] at t1
  rw [hC] at hl hsz
  simp only [Value.cells] at t0 t1 hl
  obtain ⟨l⟩ := cs
  simp only [List.size_toArray] at hl hsz
  rcases l with _ | ⟨a, _ | ⟨b, _ | ⟨c, l⟩⟩⟩
  · simp at hsz
  · simp at hsz
  · simp only [List.drop_zero, List.take_succ_cons, List.take_zero, List.drop_succ_cons] at t0 t1
    obtain ⟨z, hz, _, hw⟩ := DataW.trod_int hi t0
    have hz' : a = .int .i64 z := by simpa using hz
    subst hz'
    have hb : ∃ A n c, b = .slice A n c := by
      rcases DataW.trod_slice hsl t1 with ⟨e, _⟩ | ⟨a, len, cap, _, _, _, _, e, _⟩
      · exact ⟨none, 0, 0, by simpa using e⟩
      · exact ⟨some a, len, cap, by simpa using e⟩
    obtain ⟨A, n, c, rfl⟩ := hb
    obtain ⟨xs, e1, g1, l1, m1, r1⟩ := open_row (d := y1.1) (p := y1.2) (A := A) (n := n) (c := c) Good hsl hCe hk hg ⟨m, by simpa [Value.cells] using t1⟩
    exact ⟨z, A, n, c, xs, rfl, i64_of_wf hw, e1, g1, l1, m1, r1⟩
  · simp at hsz
end
end Go.Proofs.Ytdfgdeccejcpfaa
