/- Units: outputs and what they cost. -/
import Derived.Test.YtcpopbkcphpdfaaDoorUniA
import Derived.Test.YtcpopbkcphpdfaaDoorSl1
namespace Go.Proofs.YtcpopbkcphpdfaaDoor
open Go.RowKit
set_option linter.unusedSimpArgs false
set_option linter.unusedVariables false

def OutsP (xs : List R4) (ys : List Int) : Prop := UnisP xs ∧ ys.length = xs.length ∧ ∀ i (h1 : i < xs.length) (h2 : i < ys.length), xs[i].a ≤ ys[i] ∧ ys[i] ≤ xs[i].b
noncomputable def outsB (xs : List R4) (ys : List Int) : Bool := @decide (OutsP xs ys) (Classical.propDecidable _)
theorem outsB_t {xs : List R4} {ys : List Int} : outsB xs ys = true ↔ OutsP xs ys := by simp [outsB]
theorem outsB_f {xs : List R4} {ys : List Int} : outsB xs ys = false ↔ ¬ OutsP xs ys := by simp [outsB]

set_option maxHeartbeats 2000000 in
theorem implOutputsValid_any (A B : Option Addr) (c d : Nat) (xs : List R4) (ys : List Int) (w : World) (hR : Reads 4 r4C w w.heap.size A xs) (hS : Reads 1 intC w w.heap.size B ys) (hl : xs.length ≤ 1048576) (hl2 : ys.length ≤ 1048576) :
    Calls Tryd.prog 20 #[.slice A xs.length c, .slice B ys.length d] w fun e w' => e = .returned (.bool (outsB xs ys)) ∧ Below w.heap.size w w' := by
  have HR := Lib.hid hR; clear hR
  have HS := Lib.hid hS; clear hS
  generalize hV : outsB xs ys = V
  have HV := Lib.hid hV; clear hV
  by_cases hu : UnisP xs
  · have hv := unisV_t.2 hu
    by_cases hm : ys.length = xs.length
    · have HM := Lib.hid hm
      have HU := Lib.hid hu; clear hu
      have hne : ((ys.length : Int) != (xs.length : Int)) = false := by simp [hm]
      clear hm
      go_enter Tryd.func20, Tryd.ntmps20
      go_wp2_with fail; ((with_reducible refine (implUnitsValid_any A c xs w HR.out hl).mono ?_); rintro e w1 ⟨rfl, hb_1⟩); have hz_1 := hb_1.size; (try simp only [World.size_alloc, World.size_setCell, World.size_drew] at hz_1)
      go_wp2_with fail
      generalize hn : xs.length = n at hl hne ⊢
      generalize hm : ys.length = m at hl2 hne ⊢
      have HMN : Hid (m = n) := by unfold Hid; rw [← hn, ← hm]; exact HM.out
      have HN := Lib.hid hn; clear hn
      have HM2 := Lib.hid hm; clear hm
      go_loopw [19] (fun t wr => ∃ i : Nat, t = .int .i64 i ∧ i ≤ n ∧ Hid (∀ j (h1 : j < xs.length) (h2 : j < ys.length), j < i → xs[j].a ≤ ys[j] ∧ ys[j] ≤ xs[j].b) ∧ Hid (Below w.heap.size w wr)) (fun t _ => n - (intOf t).toNat)
      case atStart => exact ⟨0, rfl, Nat.zero_le _, fun j _ _ hj => absurd hj (by omega), hb_1⟩
      case round =>
        obtain ⟨i, rfl, hi, HA, HB⟩ := hrel
        by_cases hlt : i < n
        · have hx : i < xs.length := by rw [HN.out]; exact hlt
          have hy : i < ys.length := by rw [HM2.out, HMN.out]; exact hlt
          obtain ⟨b, off, rfl, hb, hc0, hc1, hc2, hc3⟩ := HR.out.at4 hx
          have hc0 := (HB.out.cell (p := ⟨b, off + i * 4, none⟩) hb).trans hc0
          have hc1 := (HB.out.cell (p := ⟨b, off + i * 4 + 1, none⟩) hb).trans hc1
          have hc2 := (HB.out.cell (p := ⟨b, off + i * 4 + 2, none⟩) hb).trans hc2
          have hc3 := (HB.out.cell (p := ⟨b, off + i * 4 + 3, none⟩) hb).trans hc3
          obtain ⟨b2, off2, rfl, hb2, hcy⟩ := HS.out.at1 hy
          have hcy : wr.cell? ⟨b2, off2 + i, none⟩ = some (.int .i64 ys[i]) := (HB.out.cell (p := ⟨b2, off2 + i, none⟩) hb2).trans hcy
          have hzw := HB.out.size
          have hbw : b < wr.heap.size := by omega
          have hbw2 : b2 < wr.heap.size := by omega
          have HXY : Hid ((xs[i].a ≤ ys[i] ∧ ys[i] ≤ xs[i].b) ↔ (xs[i].a ≤ ys[i] ∧ ys[i] ≤ xs[i].b)) := Iff.rfl
          generalize hxx : xs[i] = x at hc0 hc1 hc2 hc3 HXY
          generalize hyy : ys[i] = y at hcy HXY
          have HXX := Lib.hid (And.intro hxx hyy); clear hxx hyy HXY
          have hmn := HMN.out
          have him : (i : Int) < (m : Int) := by omega
          have hi0 : (0 : Int) ≤ (i : Int) := by omega
          clear hmn
          by_cases q1 : x.a ≤ y
          · have d1 : decide (y < x.a) = false := by simp; exact q1
            by_cases q2 : y ≤ x.b
            · have d2 : decide (x.b < y) = false := by simp; exact q2
              go_wp2_with fail
              go_quiet (fail)
              go_wp2_with fail
              refine ⟨⟨i + 1, by go_num, by omega, (fun j h1 h2 hji => ?_), by unfold Hid; have hB := HB.out; exact below_drewN' (hB.alloc (by omega) _) _⟩, by simp [intOf]; omega⟩
              by_cases e : j = i
              · subst e; rw [HXX.out.1, HXX.out.2]; exact ⟨q1, q2⟩
              · exact HA.out j h1 h2 (by omega)
            · have d2 : decide (x.b < y) = true := by simp; omega
              go_wp2_with fail
              go_quiet (fail)
              go_wp2_with fail
              go_ret
              have hV := HV.out
              rw [outsB_f.2 (fun hp => by have := hp.2.2 i hx hy; rw [HXX.out.1, HXX.out.2] at this; omega)] at hV
              exact ⟨by rw [← hV]; rfl, below_drewN' (HB.out.alloc (by omega) _) _⟩
          · have d1 : decide (y < x.a) = true := by simp; omega
            go_wp2_with fail
            go_quiet (fail)
            go_wp2_with fail
            go_ret
            have hV := HV.out
            rw [outsB_f.2 (fun hp => by have := hp.2.2 i hx hy; rw [HXX.out.1, HXX.out.2] at this; omega)] at hV
            exact ⟨by rw [← hV]; rfl, below_drewN' (HB.out.alloc (by omega) _) _⟩
        · go_wp2
          go_ret
          have hV := HV.out
          rw [outsB_t.2 ⟨HU.out, HM.out, fun j h1 h2 => HA.out j h1 h2 (by have := HN.out; omega)⟩] at hV
          exact ⟨by rw [← hV]; rfl, HB.out⟩
    · have hne : ((ys.length : Int) != (xs.length : Int)) = true := by rw [bned]; simp; omega
      have HM := Lib.hid hm; clear hm
      go_enter Tryd.func20, Tryd.ntmps20
      go_wp2_with fail; ((with_reducible refine (implUnitsValid_any A c xs w HR.out hl).mono ?_); rintro e w1 ⟨rfl, hb_2⟩); have hz_2 := hb_2.size; (try simp only [World.size_alloc, World.size_setCell, World.size_drew] at hz_2)
      go_wp2_with fail
      go_ret
      have hV := HV.out
      rw [outsB_f.2 (fun hp => HM.out hp.2.1)] at hV
      exact ⟨by rw [← hV]; rfl, hb_2⟩
  · have hv := unisV_f.2 hu
    have HU := Lib.hid hu; clear hu
    go_enter Tryd.func20, Tryd.ntmps20
    go_wp2_with fail; ((with_reducible refine (implUnitsValid_any A c xs w HR.out hl).mono ?_); rintro e w1 ⟨rfl, hb_3⟩); have hz_3 := hb_3.size; (try simp only [World.size_alloc, World.size_setCell, World.size_drew] at hz_3)
    go_wp2_with fail
    go_ret
    have hV := HV.out
    rw [outsB_f.2 (fun hp => HU.out hp.1)] at hV
    exact ⟨by rw [← hV]; rfl, hb_3⟩

set_option maxHeartbeats 2000000 in
theorem specOutputsValid_any (A B : Option Addr) (c d : Nat) (xs : List R4) (ys : List Int) (w : World) (hR : Reads 4 r4C w w.heap.size A xs) (hS : Reads 1 intC w w.heap.size B ys) (hl : xs.length ≤ 1048576) (hl2 : ys.length ≤ 1048576) :
    Calls Tryd.prog 21 #[.slice A xs.length c, .slice B ys.length d] w fun e w' => e = .returned (.bool (outsB xs ys)) ∧ Below w.heap.size w w' := by
  have HR := Lib.hid hR; clear hR
  have HS := Lib.hid hS; clear hS
  generalize hV : outsB xs ys = V
  have HV := Lib.hid hV; clear hV
  by_cases hu : UnisP xs
  · have hv := unisV_t.2 hu
    by_cases hm : ys.length = xs.length
    · have HM := Lib.hid hm
      have HU := Lib.hid hu; clear hu
      have hne : ((ys.length : Int) != (xs.length : Int)) = false := by simp [hm]
      clear hm
      go_enter Tryd.func21, Tryd.ntmps21
      go_wp2_with fail; ((with_reducible refine (specUnitsValid_any A c xs w HR.out hl).mono ?_); rintro e w1 ⟨rfl, hb_4⟩); have hz_4 := hb_4.size; (try simp only [World.size_alloc, World.size_setCell, World.size_drew] at hz_4)
      go_wp2_with fail
      generalize hn : xs.length = n at hl hne ⊢
      generalize hm : ys.length = m at hl2 hne ⊢
      have HMN : Hid (m = n) := by unfold Hid; rw [← hn, ← hm]; exact HM.out
      have HN := Lib.hid hn; clear hn
      have HM2 := Lib.hid hm; clear hm
      go_loopw [5] (fun t wr => ∃ i : Nat, t = .int .i64 i ∧ i ≤ n ∧ Hid (∀ j (h1 : j < xs.length) (h2 : j < ys.length), j < i → xs[j].a ≤ ys[j] ∧ ys[j] ≤ xs[j].b) ∧ Hid (Below w.heap.size w wr)) (fun t _ => n - (intOf t).toNat)
      case atStart => exact ⟨0, rfl, Nat.zero_le _, fun j _ _ hj => absurd hj (by omega), hb_4⟩
      case round =>
        obtain ⟨i, rfl, hi, HA, HB⟩ := hrel
        by_cases hlt : i < n
        · have hx : i < xs.length := by rw [HN.out]; exact hlt
          have hy : i < ys.length := by rw [HM2.out, HMN.out]; exact hlt
          obtain ⟨b, off, rfl, hb, hc0, hc1, hc2, hc3⟩ := HR.out.at4 hx
          have hc0 := (HB.out.cell (p := ⟨b, off + i * 4, none⟩) hb).trans hc0
          have hc1 := (HB.out.cell (p := ⟨b, off + i * 4 + 1, none⟩) hb).trans hc1
          obtain ⟨b2, off2, rfl, hb2, hcy⟩ := HS.out.at1 hy
          have hcy : wr.cell? ⟨b2, off2 + i, none⟩ = some (.int .i64 ys[i]) := (HB.out.cell (p := ⟨b2, off2 + i, none⟩) hb2).trans hcy
          clear hc2 hc3
          have HXY : Hid ((xs[i].a ≤ ys[i] ∧ ys[i] ≤ xs[i].b) ↔ (xs[i].a ≤ ys[i] ∧ ys[i] ≤ xs[i].b)) := Iff.rfl
          generalize hxx : xs[i] = x at hc0 hc1 HXY
          generalize hyy : ys[i] = y at hcy HXY
          have HXX := Lib.hid (And.intro hxx hyy); clear hxx hyy HXY
          have hmn := HMN.out
          have him : (i : Int) < (m : Int) := by omega
          have hin : (i : Int) < (n : Int) := by omega
          have hi0 : (0 : Int) ≤ (i : Int) := by omega
          clear hmn
          by_cases q1 : x.a ≤ y ∧ y ≤ x.b
          · have i1 := inB_t.2 q1
            go_wp2_with fail
            go_quiet ((go_at_call 61; exact quietL (l1In_any _ _ _ _)))
            go_wp2_with fail
            refine ⟨⟨i + 1, by go_num, by omega, (fun j h1 h2 hji => ?_), below_drewN' HB.out _⟩, by simp [intOf]; omega⟩
            by_cases e : j = i
            · subst e; rw [HXX.out.1, HXX.out.2]; exact q1
            · exact HA.out j h1 h2 (by omega)
          · have i1 := inB_f.2 q1
            have HQ := Lib.hid q1; clear q1
            go_wp2_with fail
            go_quiet ((go_at_call 61; exact quietL (l1In_any _ _ _ _)))
            go_wp2_with fail
            go_ret
            have hV := HV.out
            rw [outsB_f.2 (fun hp => HQ.out (by have := hp.2.2 i hx hy; rw [HXX.out.1, HXX.out.2] at this; exact this))] at hV
            exact ⟨by rw [← hV]; rfl, below_drewN' HB.out _⟩
        · go_wp2
          go_ret
          have hV := HV.out
          rw [outsB_t.2 ⟨HU.out, HM.out, fun j h1 h2 => HA.out j h1 h2 (by have := HN.out; omega)⟩] at hV
          exact ⟨by rw [← hV]; rfl, HB.out⟩
    · have hne : ((ys.length : Int) != (xs.length : Int)) = true := by rw [bned]; simp; omega
      have HM := Lib.hid hm; clear hm
      go_enter Tryd.func21, Tryd.ntmps21
      go_wp2_with fail; ((with_reducible refine (specUnitsValid_any A c xs w HR.out hl).mono ?_); rintro e w1 ⟨rfl, hb_5⟩); have hz_5 := hb_5.size; (try simp only [World.size_alloc, World.size_setCell, World.size_drew] at hz_5)
      go_wp2_with fail
      go_ret
      have hV := HV.out
      rw [outsB_f.2 (fun hp => HM.out hp.2.1)] at hV
      exact ⟨by rw [← hV]; rfl, hb_5⟩
  · have hv := unisV_f.2 hu
    have HU := Lib.hid hu; clear hu
    go_enter Tryd.func21, Tryd.ntmps21
    go_wp2_with fail; ((with_reducible refine (specUnitsValid_any A c xs w HR.out hl).mono ?_); rintro e w1 ⟨rfl, hb_6⟩); have hz_6 := hb_6.size; (try simp only [World.size_alloc, World.size_setCell, World.size_drew] at hz_6)
    go_wp2_with fail
    go_ret
    have hV := HV.out
    rw [outsB_f.2 (fun hp => HU.out hp.1)] at hV
    exact ⟨by rw [← hV]; rfl, hb_6⟩
end Go.Proofs.YtcpopbkcphpdfaaDoor
