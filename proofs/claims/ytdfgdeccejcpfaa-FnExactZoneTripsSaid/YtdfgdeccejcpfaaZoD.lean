/- spec.ZoneValid. -/
import Derived.Test.YtdfgdeccejcpfaaZoC
namespace Go.Proofs.Ytdfgdeccejcpfaa
open Go.RowKit Go.Deep
set_option linter.unusedSimpArgs false
set_option linter.unusedVariables false

set_option maxHeartbeats 4000000 in
theorem specZoneValid_any (B : Int) (A A1 : Option Addr) (c c1 : Nat) (ls : List R3) (zs : List Int) (w : World) (hR : Reads 3 r3C w w.heap.size A ls) (hR1 : Reads 1 intC w w.heap.size A1 zs) (hl : ls.length ≤ 1048576) (hl1 : zs.length ≤ 1048576) :
    Calls Try.prog 9 #[.agg #[.int .i64 B, .slice A ls.length c], .slice A1 zs.length c1] w fun e w' => e = .returned (.bool (netV B ls && zoneV B zs)) ∧ Below w.heap.size w w' := by
  have HR := Lib.hid hR; clear hR
  have HR1 := Lib.hid hR1; clear hR1
  have HL := Lib.hid hl; clear hl
  generalize hln : ls.length = ln
  have HLN := Lib.hid hln; clear hln
  by_cases hv : NetP B ls
  · have hv2 := netV_t.2 hv
    rw [hv2, Bool.true_and]
    have HV3 := Lib.hid hv2
    have h81 := hv.1
    have h82 := hv.2.1
    clear hv hv2
    generalize hV : zoneV B zs = V
    have HV := Lib.hid hV; clear hV
    generalize hn : zs.length = n at hl1 ⊢
    have HN := Lib.hid hn; clear hn
    go_enter Try.func9, Try.ntmps9
    go_wp2_with fail
    go_loopw [5] (fun t wr => ∃ i : Nat, t = .int .i64 i ∧ i ≤ n ∧ Hid (∀ j, j < i → 0 ≤ zs.getD j 0 ∧ zs.getD j 0 < B ∧ (0 < j → zs.getD (j - 1) 0 < zs.getD j 0)) ∧ Hid (Bk wr w.heap.size 30 #[.int .i64 B, .slice A ln c]) ∧ Hid (Below w.heap.size w wr)) (fun t _ => n - (intOf t).toNat)
    case atStart => exact ⟨0, rfl, Nat.zero_le _, fun j hj => absurd hj (by omega), Bk.new _ _ _, Below.alloc (Below.refl _ _) (Nat.le_refl _) _⟩
    case round =>
      obtain ⟨i, rfl, hi, HA, HK, HB⟩ := hrel
      have cB := HK.out.cell
      have zB := HK.out.lt
      by_cases hlt : i < n
      · have hx : i < zs.length := by rw [HN.out]; exact hlt
        have hi1 : (i : Int) < (n : Int) := by omega
        have hi0 : (0 : Int) ≤ (i : Int) := by omega
        obtain ⟨b, off, rfl, hb, hc⟩ := HR1.out.at1 hx
        have hc0 : wr.cell? ⟨b, off + i, none⟩ = some (.int .i64 zs[i]) := (HB.out.cell (p := ⟨b, off + i, none⟩) hb).trans hc
        generalize hxx : zs[i] = z at hc0
        have HXX := Lib.hid hxx; clear hxx hc
        have hw1 : IntKind.i64.wrap (B - 1) = B - 1 := IntWalk.i64_in _ (by omega)
        by_cases hh : inB z 0 (B - 1) = true
        · have hh2 := inB_t.1 hh
          by_cases hpos : ¬ (0 : Int) < (i : Int)
          · have hpd : decide (0 < i) = false := by simp; omega
            have HPP := Lib.hid hpos; clear hpos
            go_wp2_with fail
            go_quiet ((go_at_call 38; exact quietL (l1In_any _ _ _ _)))
            clear hw1
            go_wp2_with fail
            exact ⟨⟨i + 1, by go_num, by omega, zone_prefix (p := 0) hx HXX.out HA.out hh2.1 (by omega) (fun h => by have := HPP.out; omega), HK.out.drewN _, below_drewN' HB.out _⟩, by simp [intOf]; omega⟩
          · obtain ⟨q, rfl⟩ : ∃ q, i = q + 1 := ⟨i - 1, by omega⟩
            have hq : q < zs.length := by omega
            obtain ⟨b', off', e', hb', hc'⟩ := HR1.out.at1 hq
            injection e' with e'; injection e' with e1 e2; subst e1 e2
            have hc1 : wr.cell? ⟨b, off + q, none⟩ = some (.int .i64 zs[q]) := (HB.out.cell (p := ⟨b, off + q, none⟩) hb).trans hc'
            have hqd : zs.getD (q + 1 - 1) 0 = zs[q] := by rw [Nat.add_sub_cancel]; exact getD_lt hq 0
            generalize zs[q] = p at hc1 hqd
            have HQ := Lib.hid hqd; clear hqd hc'
            have hw2 : IntKind.i64.wrap (((q + 1 : Nat) : Int) - 1) = (q : Int) := by rw [IntWalk.i64_in _ (by omega)]; first | done | omega
            have hw3 : IntKind.i64.wrap ((q : Int) + 1 - 1) = (q : Int) := by rw [IntWalk.i64_in _ (by omega)]; first | done | omega
            have hq1 : (q : Int) < (n : Int) := by omega
            have hq0 : (0 : Int) ≤ (q : Int) := by omega
            have hpd : decide ((0 : Int) < ((q + 1 : Nat) : Int)) = true := by first | (simp; done) | (simp; omega)
            have hpd2 : decide ((0 : Int) < (q : Int) + 1) = true := by first | (simp; done) | (simp; omega)
            by_cases hzp : z ≤ p
            · have hzd : decide (z ≤ p) = true := by simp [hzp]
              go_wp2_with fail
              go_quiet ((go_at_call 38; exact quietL (l1In_any _ _ _ _)))
              clear hw1 hw2 hw3
              go_wp2_with fail
              go_ret
              have hV := HV.out
              rw [zoneV_f.2 (fun hp => by have := (hp (q + 1) hx).2.2 (by omega); rw [HQ.out, getD_lt hx, HXX.out] at this; omega)] at hV
              exact ⟨by rw [← hV]; rfl, below_drewN' HB.out _⟩
            · have hzd : decide (z ≤ p) = false := by simp; omega
              go_wp2_with fail
              go_quiet ((go_at_call 38; exact quietL (l1In_any _ _ _ _)))
              clear hw1 hw2 hw3
              go_wp2_with fail
              exact ⟨⟨q + 1 + 1, by go_num, by omega, zone_prefix (p := p) hx HXX.out HA.out hh2.1 (by omega) (fun h => by rw [HQ.out]; omega), HK.out.drewN _, below_drewN' HB.out _⟩, by simp [intOf]; omega⟩
        · have hh3 : inB z 0 (B - 1) = false := by simpa using hh
          have HNB := Lib.hid (inB_f.1 hh3)
          clear hh
          go_wp2_with fail
          go_quiet ((go_at_call 38; exact quietL (l1In_any _ _ _ _)))
          clear hw1
          go_wp2_with fail
          go_ret
          have hV := HV.out
          rw [zoneV_f.2 (fun hp => by have := hp i hx; rw [getD_lt hx, HXX.out] at this; exact HNB.out ⟨this.1, by omega⟩)] at hV
          exact ⟨by rw [← hV]; rfl, below_drewN' HB.out _⟩
      · have hV := HV.out
        have hn := HN.out
        rw [zoneV_t.2 (fun j hj => HA.out j (by omega))] at hV
        have HVV := Lib.hid hV
        clear hV hn
        have hv2 := HV3.out
        go_wp2_with fail
        refine ((by have h := specNetValid_any B A c ls wr ((HR.out.below HB.out (Nat.le_refl _)).more HB.out.size) HL.out; rw [HLN.out] at h; exact h : Calls Try.prog 39 #[.agg #[.int .i64 B, .slice A ln c]] wr _)).mono ?_
        rintro e w2 ⟨rfl, hb⟩
        go_wp2
        go_ret
        exact ⟨by rw [← HVV.out]; rfl, HB.out.trans (hb.mono HB.out.size)⟩
  · have hv2 := netV_f.2 hv
    rw [hv2, Bool.false_and]
    have HV3 := Lib.hid hv2
    clear hv hv2
    generalize hn : zs.length = n at hl1 ⊢
    have HN := Lib.hid hn; clear hn
    generalize hwr : IntKind.i64.wrap (B - 1) = E
    go_enter Try.func9, Try.ntmps9
    go_wp2_with fail
    go_loopw [5] (fun t wr => ∃ i : Nat, t = .int .i64 i ∧ i ≤ n ∧ Hid (Bk wr w.heap.size 30 #[.int .i64 B, .slice A ln c]) ∧ Hid (Below w.heap.size w wr)) (fun t _ => n - (intOf t).toNat)
    case atStart => exact ⟨0, rfl, Nat.zero_le _, Bk.new _ _ _, Below.alloc (Below.refl _ _) (Nat.le_refl _) _⟩
    case round =>
      obtain ⟨i, rfl, hi, HK, HB⟩ := hrel
      have cB := HK.out.cell
      have zB := HK.out.lt
      by_cases hlt : i < n
      · have hx : i < zs.length := by rw [HN.out]; exact hlt
        have hi1 : (i : Int) < (n : Int) := by omega
        have hi0 : (0 : Int) ≤ (i : Int) := by omega
        obtain ⟨b, off, rfl, hb, hc⟩ := HR1.out.at1 hx
        have hc0 : wr.cell? ⟨b, off + i, none⟩ = some (.int .i64 zs[i]) := (HB.out.cell (p := ⟨b, off + i, none⟩) hb).trans hc
        generalize zs[i] = z at hc0
        clear hc
        by_cases hh : inB z 0 E = true
        · by_cases hpos : ¬ (0 : Int) < (i : Int)
          · have hpd : decide (0 < i) = false := by simp; omega
            have HPP := Lib.hid hpos; clear hpos
            go_wp2_with fail
            go_quiet ((go_at_call 38; exact quietL (l1In_any _ _ _ _)))
            go_wp2_with fail
            exact ⟨⟨i + 1, by go_num, by omega, HK.out.drewN _, below_drewN' HB.out _⟩, by simp [intOf]; omega⟩
          · obtain ⟨q, rfl⟩ : ∃ q, i = q + 1 := ⟨i - 1, by omega⟩
            have hq : q < zs.length := by omega
            obtain ⟨b', off', e', hb', hc'⟩ := HR1.out.at1 hq
            injection e' with e'; injection e' with e1 e2; subst e1 e2
            have hc1 : wr.cell? ⟨b, off + q, none⟩ = some (.int .i64 zs[q]) := (HB.out.cell (p := ⟨b, off + q, none⟩) hb).trans hc'
            generalize zs[q] = p at hc1
            clear hc'
            have hw2 : IntKind.i64.wrap (((q + 1 : Nat) : Int) - 1) = (q : Int) := by rw [IntWalk.i64_in _ (by omega)]; first | done | omega
            have hw3 : IntKind.i64.wrap ((q : Int) + 1 - 1) = (q : Int) := by rw [IntWalk.i64_in _ (by omega)]; first | done | omega
            have hq1 : (q : Int) < (n : Int) := by omega
            have hq0 : (0 : Int) ≤ (q : Int) := by omega
            have hpd : decide ((0 : Int) < ((q + 1 : Nat) : Int)) = true := by first | (simp; done) | (simp; omega)
            have hpd2 : decide ((0 : Int) < (q : Int) + 1) = true := by first | (simp; done) | (simp; omega)
            by_cases hzp : z ≤ p
            · have hzd : decide (z ≤ p) = true := by simp [hzp]
              go_wp2_with fail
              go_quiet ((go_at_call 38; exact quietL (l1In_any _ _ _ _)))
              clear hw2 hw3
              go_wp2_with fail
              go_ret
              exact ⟨rfl, below_drewN' HB.out _⟩
            · have hzd : decide (z ≤ p) = false := by simp; omega
              go_wp2_with fail
              go_quiet ((go_at_call 38; exact quietL (l1In_any _ _ _ _)))
              clear hw2 hw3
              go_wp2_with fail
              exact ⟨⟨q + 1 + 1, by go_num, by omega, HK.out.drewN _, below_drewN' HB.out _⟩, by simp [intOf]; omega⟩
        · have hh3 : inB z 0 E = false := by simpa using hh
          clear hh
          go_wp2_with fail
          go_quiet ((go_at_call 38; exact quietL (l1In_any _ _ _ _)))
          go_wp2_with fail
          go_ret
          exact ⟨rfl, below_drewN' HB.out _⟩
      · have hv2 := HV3.out
        go_wp2_with fail
        refine ((by have h := specNetValid_any B A c ls wr ((HR.out.below HB.out (Nat.le_refl _)).more HB.out.size) HL.out; rw [HLN.out] at h; exact h : Calls Try.prog 39 #[.agg #[.int .i64 B, .slice A ln c]] wr _)).mono ?_
        rintro e w2 ⟨rfl, hb⟩
        go_wp2
        go_ret
        exact ⟨rfl, HB.out.trans (hb.mono HB.out.size)⟩
end Go.Proofs.Ytdfgdeccejcpfaa
