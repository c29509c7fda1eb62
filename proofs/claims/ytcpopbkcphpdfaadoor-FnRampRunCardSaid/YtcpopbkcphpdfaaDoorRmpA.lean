/- Ramps: which are valid. -/
import Derived.Test.YtcpopbkcphpdfaaDoorUniB
import Derived.Test.YtcpopbkcphpdfaaDoorClone
namespace Go.Proofs.YtcpopbkcphpdfaaDoor
open Go.RowKit
set_option linter.unusedSimpArgs false
set_option linter.unusedVariables false

def RampP (xs : List R4) (rs ys : List Int) : Prop := OutsP xs ys ∧ rs.length = xs.length ∧ ∀ r ∈ rs, 0 ≤ r ∧ r ≤ 999
noncomputable def rampB (xs : List R4) (rs ys : List Int) : Bool := @decide (RampP xs rs ys) (Classical.propDecidable _)
theorem rampB_t {xs : List R4} {rs ys : List Int} : rampB xs rs ys = true ↔ RampP xs rs ys := by simp [rampB]
theorem rampB_f {xs : List R4} {rs ys : List Int} : rampB xs rs ys = false ↔ ¬ RampP xs rs ys := by simp [rampB]
def rampOne (x : R4) (r y : Int) : R4 := ⟨max x.a (y - r), min x.b (y + r), x.c, x.d⟩
def rampL : List R4 → List Int → List Int → List R4
  | x :: xs, r :: rs, y :: ys => rampOne x r y :: rampL xs rs ys
  | _, _, _ => []
theorem rampL_len : ∀ {xs : List R4} {rs ys : List Int}, rs.length = xs.length → ys.length = xs.length → (rampL xs rs ys).length = xs.length
  | [], _, _, _, _ => by simp [rampL]
  | x :: xs, [], _, h, _ => by simp at h
  | x :: xs, _ :: _, [], _, h => by simp at h
  | x :: xs, r :: rs, y :: ys, h1, h2 => by simp only [rampL, List.length_cons]; rw [rampL_len (by simpa using h1) (by simpa using h2)]
theorem rampL_get : ∀ {xs : List R4} {rs ys : List Int} {i : Nat} (h1 : i < xs.length) (h2 : i < rs.length) (h3 : i < ys.length), (rampL xs rs ys)[i]? = some (rampOne xs[i] rs[i] ys[i])
  | [], _, _, _, h, _, _ => by simp at h
  | x :: xs, [], _, _, _, h, _ => by simp at h
  | x :: xs, _ :: _, [], _, _, _, h => by simp at h
  | x :: xs, r :: rs, y :: ys, 0, _, _, _ => by simp [rampL]
  | x :: xs, r :: rs, y :: ys, i + 1, h1, h2, h3 => by
    have := rampL_get (xs := xs) (rs := rs) (ys := ys) (i := i) (by simpa using h1) (by simpa using h2) (by simpa using h3)
    simpa [rampL] using this
noncomputable def rampOut (xs : List R4) (rs ys : List Int) : List R4 := if rampB xs rs ys = true then rampL xs rs ys else []
theorem rampOut_le {xs : List R4} {rs ys : List Int} : (rampOut xs rs ys).length ≤ 6 := by
  unfold rampOut
  split
  · rename_i h
    have hp := rampB_t.1 h
    rw [rampL_len hp.2.1 hp.1.2.1]; exact hp.1.1.1
  · simp

set_option maxHeartbeats 2000000 in
theorem rampsValid_any (A B C : Option Addr) (c d f : Nat) (xs : List R4) (rs ys : List Int) (w : World) (hR : Reads 4 r4C w w.heap.size A xs) (hT : Reads 1 intC w w.heap.size B rs) (hS : Reads 1 intC w w.heap.size C ys) (hl : xs.length ≤ 1048576) (hl1 : rs.length ≤ 1048576) (hl2 : ys.length ≤ 1048576) :
    Calls Tryd.prog 66 #[.slice A xs.length c, .slice B rs.length d, .slice C ys.length f] w fun e w' => e = .returned (.bool (rampB xs rs ys)) ∧ Below w.heap.size w w' := by
  have HR := Lib.hid hR; clear hR
  have HS := Lib.hid hS; clear hS
  have HT := Lib.hid hT; clear hT
  generalize hV : rampB xs rs ys = V
  have HV := Lib.hid hV; clear hV
  by_cases hu : OutsP xs ys
  · have hv := outsB_t.2 hu
    by_cases hm : rs.length = xs.length
    · have HM := Lib.hid hm
      have HU := Lib.hid hu; clear hu
      have hne : ((rs.length : Int) != (xs.length : Int)) = false := by simp [hm]
      clear hm
      go_enter Tryd.func66, Tryd.ntmps66
      go_wp2_with fail; ((with_reducible refine (implOutputsValid_any A C c f xs ys w HR.out HS.out hl hl2).mono ?_); rintro e w1 ⟨rfl, hb_1⟩); have hz_1 := hb_1.size; (try simp only [World.size_alloc, World.size_setCell, World.size_drew] at hz_1)
      go_wp2_with fail
      generalize hn : rs.length = n at hl1 hne ⊢
      have HN := Lib.hid hn; clear hn
      go_loopw [22] (fun t wr => ∃ i : Nat, t = .int .i64 i ∧ i ≤ n ∧ Hid (∀ j (h1 : j < rs.length), j < i → 0 ≤ rs[j] ∧ rs[j] ≤ 999) ∧ Hid (Below w.heap.size w wr)) (fun t _ => n - (intOf t).toNat)
      case atStart => exact ⟨0, rfl, Nat.zero_le _, fun j _ hj => absurd hj (by omega), hb_1⟩
      case round =>
        obtain ⟨i, rfl, hi, HA, HB⟩ := hrel
        by_cases hlt : i < n
        · have hy : i < rs.length := by rw [HN.out]; exact hlt
          obtain ⟨b2, off2, rfl, hb2, hcy⟩ := HT.out.at1 hy
          have hcy1 : wr.cell? ⟨b2, off2 + i, none⟩ = some (.int .i64 rs[i]) := (HB.out.cell (p := ⟨b2, off2 + i, none⟩) hb2).trans hcy
          clear hcy
          generalize hyy : rs[i] = y at hcy1
          have HY := Lib.hid hyy; clear hyy
          have hi1 : (i : Int) < (n : Int) := by omega
          have hi0 : (0 : Int) ≤ (i : Int) := by omega
          by_cases q : 0 ≤ y ∧ y ≤ 999
          · have hq : inB y 0 999 = true := inB_t.2 q
            go_wp2_with (go_at_call 60; refine (powerValid_any _ _).mono ?_; rintro e w' ⟨rfl, rfl⟩)
            refine ⟨⟨i + 1, by go_num, by omega, (fun j h1 hji => ?_), HB⟩, by simp [intOf]; omega⟩
            by_cases e : j = i
            · subst e; rw [HY.out]; exact q
            · exact HA.out j h1 (by omega)
          · have hq : inB y 0 999 = false := inB_f.2 q
            go_wp2_with (go_at_call 60; refine (powerValid_any _ _).mono ?_; rintro e w' ⟨rfl, rfl⟩)
            go_ret
            have hV := HV.out
            rw [rampB_f.2 (fun hp => q (by have := hp.2.2 rs[i] (List.getElem_mem _); rw [HY.out] at this; exact this))] at hV
            exact ⟨by rw [← hV]; rfl, HB.out⟩
        · go_wp2
          go_ret
          have hV := HV.out
          rw [rampB_t.2 ⟨HU.out, HM.out, fun r hr => by
            obtain ⟨j, hj, rfl⟩ := List.mem_iff_getElem.1 hr
            exact HA.out j hj (by have := HN.out; omega)⟩] at hV
          exact ⟨by rw [← hV]; rfl, HB.out⟩
    · have hne : ((rs.length : Int) != (xs.length : Int)) = true := by rw [bned]; simp; omega
      have HM := Lib.hid hm; clear hm
      go_enter Tryd.func66, Tryd.ntmps66
      go_wp2_with fail; ((with_reducible refine (implOutputsValid_any A C c f xs ys w HR.out HS.out hl hl2).mono ?_); rintro e w1 ⟨rfl, hb_2⟩); have hz_2 := hb_2.size; (try simp only [World.size_alloc, World.size_setCell, World.size_drew] at hz_2)
      go_wp2_with fail
      go_ret
      have hV := HV.out
      rw [rampB_f.2 (fun hp => HM.out hp.2.1)] at hV
      exact ⟨by rw [← hV]; rfl, hb_2⟩
  · have hv := outsB_f.2 hu
    have HU := Lib.hid hu; clear hu
    go_enter Tryd.func66, Tryd.ntmps66
    go_wp2_with fail; ((with_reducible refine (implOutputsValid_any A C c f xs ys w HR.out HS.out hl hl2).mono ?_); rintro e w1 ⟨rfl, hb_3⟩); have hz_3 := hb_3.size; (try simp only [World.size_alloc, World.size_setCell, World.size_drew] at hz_3)
    go_wp2_with fail
    go_ret
    have hV := HV.out
    rw [rampB_f.2 (fun hp => HU.out hp.1)] at hV
    exact ⟨by rw [← hV]; rfl, hb_3⟩
end Go.Proofs.YtcpopbkcphpdfaaDoor
