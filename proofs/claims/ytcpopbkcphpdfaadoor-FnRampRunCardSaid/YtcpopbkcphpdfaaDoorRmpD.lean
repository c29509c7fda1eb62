/- Ramps: the next hour, and the range of loads. -/
import Derived.Test.YtcpopbkcphpdfaaDoorRmpB
import Derived.Test.YtcpopbkcphpdfaaDoorRmpC
import Derived.Test.YtcpopbkcphpdfaaDoorDspI
namespace Go.Proofs.YtcpopbkcphpdfaaDoor
open Go.RowKit Go.Deep
set_option linter.unusedSimpArgs false
set_option linter.unusedVariables false

theorem rampOut_len0 {xs : List R4} {rs ys : List Int} : (rampOut xs rs ys).length = 0 ↔ ¬ (rampB xs rs ys = true ∧ xs.length ≠ 0) := by
  unfold rampOut
  by_cases h : rampB xs rs ys = true
  · rw [if_pos h, rampL_len (rampB_t.1 h).2.1 (rampB_t.1 h).1.2.1]
    simp [h]
  · rw [if_neg h]; simp [h]
noncomputable def rampN (xs : List R4) (rs ys : List Int) (L : Int) : Option (List Int) := if rampB xs rs ys = true ∧ xs.length ≠ 0 then dispO (rampL xs rs ys) L else none
theorem rampN_len (xs : List R4) (rs ys : List Int) (L : Int) : ((rampN xs rs ys L).getD []).length ≤ 6 := by
  unfold rampN; split
  · exact dispO_len _ _
  · simp

set_option maxRecDepth 100000 in
set_option maxHeartbeats 2000000 in
theorem implRampNext_any (A B C : Option Addr) (c d f : Nat) (xs : List R4) (rs ys : List Int) (L : Int) (hL : I64 L) (w : World) (hR : Reads 4 r4C w w.heap.size A xs) (hT : Reads 1 intC w w.heap.size B rs) (hS : Reads 1 intC w w.heap.size C ys) (hl : xs.length ≤ 1048576) (hl1 : rs.length ≤ 1048576) (hl2 : ys.length ≤ 1048576) :
    Calls Tryd.prog 40 #[.slice A xs.length c, .slice B rs.length d, .slice C ys.length f, .int .i64 L] w (RetD w (rampN xs rs ys L)) := by
  have HR := Lib.hid hR; have HT := Lib.hid hT; have HS := Lib.hid hS; have HL := Lib.hid hL; clear hR hT hS hL
  by_cases hv : rampB xs rs ys = true
  · by_cases h0 : xs.length = 0
    · have hO : rampN xs rs ys L = none := by unfold rampN; rw [if_neg (fun h => h.2 h0)]
      rw [hO]; clear hO
      have hz : ((xs.length : Int) == 0) = true := by simp [h0]
      have hz2 : (xs.length == 0) = true := by simp [h0]
      clear h0
      go_enter Tryd.func40, Tryd.ntmps40
      go_wp2_with fail; ((with_reducible refine (rampsValid_any A B C c d f xs rs ys w HR.out HT.out HS.out hl hl1 hl2).mono ?_); rintro e w1 ⟨rfl, hb_1⟩); have hz_1 := hb_1.size; (try simp only [World.size_alloc, World.size_setCell, World.size_drew] at hz_1)
      go_wp2
      go_ret2
      exact ⟨_, rfl, Res.empty rfl rfl, hb_1⟩
    · have hO : rampN xs rs ys L = dispO (rampOut xs rs ys) L := by unfold rampN rampOut; rw [if_pos ⟨hv, h0⟩, if_pos hv]
      rw [hO]; clear hO
      have hz : ((xs.length : Int) == 0) = false := beq_eq_false_iff_ne.2 (by omega)
      have hz2 : (xs.length == 0) = false := beq_eq_false_iff_ne.2 (by omega)
      clear h0
      have hrl : (rampOut xs rs ys).length ≤ 1048576 := Nat.le_trans rampOut_le (by omega)
      go_enter Tryd.func40, Tryd.ntmps40
      go_wp2_with fail; ((with_reducible refine (rampsValid_any A B C c d f xs rs ys w HR.out HT.out HS.out hl hl1 hl2).mono ?_); rintro e w1 ⟨rfl, hb_2⟩); have hz_2 := hb_2.size; (try simp only [World.size_alloc, World.size_setCell, World.size_drew] at hz_2)
      have HB1 := Lib.hid hb_2; clear hb_2
      go_wp2_with fail
      refine (implRampUnits_any A B C c d f xs rs ys w1 ((HR.out.below HB1.out (Nat.le_refl _)).more HB1.out.size) ((HT.out.below HB1.out (Nat.le_refl _)).more HB1.out.size) ((HS.out.below HB1.out (Nat.le_refl _)).more HB1.out.size) hl hl1 hl2).mono ?_
      rintro e w2 ⟨v2, rfl, hr2, hb2⟩
      have HR2 := Lib.hid hr2
      obtain ⟨B2, d2, rfl, _⟩ := hr2
      have HB2 : Hid (Below w.heap.size w w2) := HB1.out.trans (hb2.mono HB1.out.size)
      clear hb2
      go_wp2_with fail
      refine (implDispatch_any B2 d2 (rampOut xs rs ys) L HL.out w2 HR2.out.reads.1 hrl).mono ?_
      rintro e w3 ⟨v3, rfl, hr3, hb3⟩
      have HR3 := Lib.hid hr3
      have HB3 : Hid (Below w.heap.size w w3) := HB2.out.trans (hb3.mono HB2.out.size)
      have hsz := HB2.out.size
      clear hb3 hr3
      go_wp2_with fail
      go_ret2
      exact ⟨_, rfl, HR3.out.mono hsz, HB3.out⟩
  · have hO : rampN xs rs ys L = none := by unfold rampN; rw [if_neg (fun h => hv h.1)]
    rw [hO]; clear hO
    have hv' : rampB xs rs ys = false := by simpa using hv
    clear hv
    go_enter Tryd.func40, Tryd.ntmps40
    go_wp2_with fail; ((with_reducible refine (rampsValid_any A B C c d f xs rs ys w HR.out HT.out HS.out hl hl1 hl2).mono ?_); rintro e w1 ⟨rfl, hb_3⟩); have hz_3 := hb_3.size; (try simp only [World.size_alloc, World.size_setCell, World.size_drew] at hz_3)
    go_wp2
    go_ret2
    exact ⟨_, rfl, Res.empty rfl rfl, hb_3⟩

set_option maxRecDepth 100000 in
set_option maxHeartbeats 2000000 in
theorem specRampNext_any (A B C : Option Addr) (c d f : Nat) (xs : List R4) (rs ys : List Int) (L : Int) (hL : I64 L) (w : World) (hR : Reads 4 r4C w w.heap.size A xs) (hT : Reads 1 intC w w.heap.size B rs) (hS : Reads 1 intC w w.heap.size C ys) (hl : xs.length ≤ 1048576) (hl1 : rs.length ≤ 1048576) (hl2 : ys.length ≤ 1048576) :
    Calls Tryd.prog 48 #[.slice A xs.length c, .slice B rs.length d, .slice C ys.length f, .int .i64 L] w (RetD w (rampN xs rs ys L)) := by
  have HR := Lib.hid hR; have HT := Lib.hid hT; have HS := Lib.hid hS; have HL := Lib.hid hL; clear hR hT hS hL
  have HU := Lib.hid (specRampUnits_any A B C c d f xs rs ys w HR.out HT.out HS.out hl hl1 hl2)
  have hrl : (rampOut xs rs ys).length ≤ 1048576 := Nat.le_trans rampOut_le (by omega)
  by_cases hv : (rampOut xs rs ys).length = 0
  · have hO : rampN xs rs ys L = none := by unfold rampN; rw [if_neg (rampOut_len0.1 hv)]
    rw [hO]; clear hO
    have hz : (((rampOut xs rs ys).length : Int) == 0) = true := by simp [hv]
    have hz2 : ((rampOut xs rs ys).length == 0) = true := by simp [hv]
    clear hv
    generalize rampOut xs rs ys = us at HU hrl hz hz2
    go_enter Tryd.func48, Tryd.ntmps48
    go_wp2_with fail
    refine HU.out.mono ?_
    rintro e w2 ⟨v2, rfl, hr2, hb2⟩
    obtain ⟨B2, d2, rfl, _⟩ := hr2
    have hsz := hb2.size
    go_wp2
    go_ret2
    refine ⟨_, rfl, Res.empty rfl rfl, ?_⟩; (repeat' (first | (with_reducible exact Below.refl _ _) | (with_reducible refine Below.alloc ?_ ?_ _) | (with_reducible refine Below.setCell ?_ ?_ _) | (with_reducible refine Below.drew ?_) | (refine Below.trans ?_ (Below.mono (by with_reducible assumption) ?_)) | go_size))
  · have hO : rampN xs rs ys L = dispO (rampOut xs rs ys) L := by
      have h := fun hh => hv (rampOut_len0.2 hh)
      have h2 : rampB xs rs ys = true ∧ xs.length ≠ 0 := Classical.byContradiction h
      unfold rampN rampOut; rw [if_pos h2, if_pos h2.1]
    rw [hO]; clear hO
    have hz : (((rampOut xs rs ys).length : Int) == 0) = false := beq_eq_false_iff_ne.2 (by omega)
    have hz2 : ((rampOut xs rs ys).length == 0) = false := beq_eq_false_iff_ne.2 (by omega)
    clear hv
    generalize rampOut xs rs ys = us at HU hrl hz hz2 ⊢
    go_enter Tryd.func48, Tryd.ntmps48
    go_wp2_with fail
    refine HU.out.mono ?_
    rintro e w2 ⟨v2, rfl, hr2, hb2⟩
    have HR2 := Lib.hid hr2
    obtain ⟨B2, d2, rfl, _⟩ := hr2
    have HB2 := Lib.hid hb2; clear hb2
    go_wp2_with fail
    refine (specDispatch_any B2 d2 us L HL.out w2 HR2.out.reads.1 hrl).mono ?_
    rintro e w3 ⟨v3, rfl, hr3, hb3⟩
    have HR3 := Lib.hid hr3
    have HB3 : Hid (Below w.heap.size w w3) := HB2.out.trans (hb3.mono HB2.out.size)
    have hsz := HB2.out.size
    clear hb3 hr3
    go_wp2_with fail
    go_ret2
    exact ⟨_, rfl, HR3.out.mono hsz, HB3.out⟩
end Go.Proofs.YtcpopbkcphpdfaaDoor
