/- The library's table of trailing zeros, from what the row lists. -/
import Derived.Test.YtecekhjlapaofaaDoorRows
import Derived.Test.YtecekhjlapaofaaDoorShI
import Derived.LaidSub
namespace Go.Proofs.YtecekhjlapaofaaDoor
open Go.RowKit Go.Deep
set_option linter.unusedSimpArgs false
set_option linter.unusedVariables false
theorem tabOk_of {W : World} {laid : List (String × DataW Unit)} (h : laidMetH Tryd.prog laid W) (hf : laid.filter (fun x => x.1 == "math/bits.deBruijn64tab") = [("math/bits.deBruijn64tab", Rows.laid_math_bits_deBruijn64tab)] := by rfl) : TabOk W := by
  have h2 := h.filter (fun x => x.1 == "math/bits.deBruijn64tab")
  rw [hf] at h2
  have h3 : laidMet Tryd.prog [("math/bits.deBruijn64tab", Lib.tabData .u8 (tabL.map fun (n : Nat) => (n : Int)))] W := by
    have := (laidMetH_iff.1 h2).1
    exact this
  have hg : Tryd.prog.globalNamed "math/bits.deBruijn64tab" = some 1 := by kernel_rfl
  have ht := Lib.tabIs_of_head (k := .u8) hg (by kernel_rfl) Tryd.underlying110 Tryd.underlying5 (by kernel_rfl) (by kernel_rfl) h3
  have hc := fun i hi => Lib.TabIs.cell ht hg i hi
  refine ⟨?_, fun i hi => ?_⟩
  · have := hc 0 (by decide)
    rcases Nat.lt_or_ge 1 W.heap.size with h | h
    · exact h
    · unfold World.cell? at this
      rw [Array.getElem?_eq_none h] at this
      simp at this
  · rw [hc i (by simpa [tabL] using hi)]
    congr 2
    rw [List.getD_eq_getElem?_getD, List.getElem?_map, List.getD_eq_getElem?_getD]
    cases tabL[i]? <;> rfl
end Go.Proofs.YtecekhjlapaofaaDoor
