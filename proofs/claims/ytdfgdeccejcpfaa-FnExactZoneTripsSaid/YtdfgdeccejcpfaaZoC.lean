/- Networks and zones: validity, as both sides ask it. -/
import Derived.Test.YtdfgdeccejcpfaaZnU
import Derived.Test.YtdfgdeccejcpfaaL1
import Derived.Test.YtdfgdeccejcpfaaRow
import Derived.Deep.RegionHeld3
import Derived.Deep.DeepCutAuto
namespace Go.Proofs.Ytdfgdeccejcpfaa
open Go.RowKit Go.Deep
set_option linter.unusedSimpArgs false
set_option linter.unusedVariables false

set_option maxHeartbeats 4000000 in
theorem specNetValid_any (B : Int) (A : Option Addr) (c : Nat) (xs : List R3) (w : World) (hR : Reads 3 r3C w w.heap.size A xs) (hl : xs.length ≤ 1048576) :
    Calls Try.prog 39 #[.agg #[.int .i64 B, .slice A xs.length c]] w fun e w' => e = .returned (.bool (netV B xs)) ∧ Below w.heap.size w w' := by
  have HR := Lib.hid hR; clear hR
  generalize hV : netV B xs = V
  have HV := Lib.hid hV; clear hV
  generalize hn : xs.length = n at hl ⊢
  have HN := Lib.hid hn; clear hn
  by_cases hB8 : 1 ≤ B ∧ B ≤ 8
  · obtain ⟨hB1, hB2⟩ := hB8
    have i0 : inB B 1 8 = true := inB_t.2 ⟨hB1, hB2⟩
    by_cases hn10 : n ≤ 10
    · go_enter Try.func39, Try.ntmps39
      go_wp2_with (go_at_call 38; refine (l1In_any _ _ _ _).mono ?_; rintro e w' ⟨rfl, rfl⟩)
      all_goals try (exfalso; omega; done)
      go_loopw [3] (fun t wr => ∃ i : Nat, t = .int .i64 i ∧ i ≤ n ∧ Hid (∀ j (hj : j < xs.length), j < i → LineOk B xs[j]) ∧ Hid (Bk wr w.heap.size 30 #[.int .i64 B, .slice A n c]) ∧ Hid (Below w.heap.size w wr)) (fun t _ => n - (intOf t).toNat)
      case atStart => exact ⟨0, rfl, Nat.zero_le _, fun j _ hj => absurd hj (by omega), Bk.new _ _ _, Below.alloc (Below.refl _ _) (Nat.le_refl _) _⟩
      case round =>
        obtain ⟨i, rfl, hi, HA, HK, HB⟩ := hrel
        have cB := HK.out.cell
        have zB := HK.out.lt
        by_cases hlt : i < n
        · have hx : i < xs.length := by rw [HN.out]; exact hlt
          obtain ⟨b, off, rfl, hb, hc0, hc1, hc2⟩ := HR.out.at3 hx
          have hc0 := (HB.out.cell (p := ⟨b, off + i * 3, none⟩) hb).trans hc0
          have hc1 := (HB.out.cell (p := ⟨b, off + i * 3 + 1, none⟩) hb).trans hc1
          have hc2 := (HB.out.cell (p := ⟨b, off + i * 3 + 2, none⟩) hb).trans hc2
          generalize hxx : xs[i] = x at hc0 hc1 hc2
          have HXX := Lib.hid hxx; clear hxx
          have hi1 : (i : Int) < (n : Int) := by omega
          by_cases hok : LineOk B x
          · have hok2 := hok
            unfold LineOk at hok2
            obtain ⟨q1, q2, q3, q4, q5, q6, q7⟩ := hok2
            have i1 : inB x.a 0 (B - 1) = true := inB_t.2 (by omega)
            have i2 : inB x.b 0 (B - 1) = true := inB_t.2 (by omega)
            have i3 : (x.a == x.b) = false := by simp [q5]
            have i4 : inB x.c 1 999 = true := inB_t.2 (by omega)
            have HOK := Lib.hid hok
            clear q5 hok
            go_wp2_with (go_at_call 38; refine (l1In_any _ _ _ _).mono ?_; rintro e w' ⟨rfl, rfl⟩)
            all_goals try (exfalso; omega; done)
            refine ⟨⟨i + 1, by go_num, by omega, (fun j hj hji => ?_), (HK.out.alloc _), by unfold Hid; have hB := HB.out; (repeat' (first | (with_reducible exact Below.refl _ _) | (with_reducible refine Below.alloc ?_ ?_ _) | (with_reducible refine Below.setCell ?_ ?_ _) | (with_reducible refine Below.drew ?_) | (refine Below.trans ?_ (Below.mono (by with_reducible assumption) ?_)) | go_size))⟩, by simp [intOf]; omega⟩
            by_cases e : j = i
            · subst e; rw [HXX.out]; exact HOK.out
            · exact HA.out j hj (by omega)
          · have HOK := Lib.hid hok; clear hok
            go_wp2_with (go_at_call 38; refine (l1In_any _ _ _ _).mono ?_; rintro e w' ⟨rfl, rfl⟩)
            all_goals try (exfalso; apply HOK.out; unfold LineOk; simp only [Bool.not_eq_true', Bool.not_eq_false', inB_t, inB_f, beqd, decide_eq_false_iff_not, decide_eq_true_eq] at *; omega; done)
            all_goals (go_ret; have hV := HV.out; rw [netV_f.2 (fun hp => HOK.out (by rw [← HXX.out]; exact hp.2.2.2 _ (List.getElem_mem hx)))] at hV; refine ⟨by rw [← hV]; rfl, ?_⟩; have hB := HB.out; (repeat' (first | (with_reducible exact Below.refl _ _) | (with_reducible refine Below.alloc ?_ ?_ _) | (with_reducible refine Below.setCell ?_ ?_ _) | (with_reducible refine Below.drew ?_) | (refine Below.trans ?_ (Below.mono (by with_reducible assumption) ?_)) | go_size)))
        · go_wp2
          go_ret
          have hV := HV.out
          have hn := HN.out
          rw [netV_t.2 ⟨hB1, hB2, by omega, fun x hx => by obtain ⟨j, hj, rfl⟩ := List.mem_iff_getElem.1 hx; exact HA.out j hj (by omega)⟩] at hV
          exact ⟨by rw [← hV]; rfl, HB.out⟩
    · have h10 : (10 : Int) < (n : Int) := by omega
      go_enter Try.func39, Try.ntmps39
      go_wp2_with (go_at_call 38; refine (l1In_any _ _ _ _).mono ?_; rintro e w' ⟨rfl, rfl⟩)
      all_goals try (exfalso; omega; done)
      all_goals (go_ret; have hV := HV.out; have hn := HN.out; rw [netV_f.2 (fun hp => by have := hp.2.2.1; omega)] at hV; exact ⟨by rw [← hV]; rfl, (Below.refl _ _).alloc (Nat.le_refl _) _⟩)
  · have i0 : inB B 1 8 = false := inB_f.2 hB8
    have H8 := Lib.hid hB8; clear hB8
    go_enter Try.func39, Try.ntmps39
    go_wp2_with (go_at_call 38; refine (l1In_any _ _ _ _).mono ?_; rintro e w' ⟨rfl, rfl⟩)
    go_ret
    have hV := HV.out
    rw [netV_f.2 (fun hp => H8.out ⟨hp.1, hp.2.1⟩)] at hV
    exact ⟨by rw [← hV]; rfl, (Below.refl _ _).alloc (Nat.le_refl _) _⟩

theorem zone_prefix {B : Int} {zs : List Int} {i : Nat} {z p : Int} (hi : i < zs.length) (hz : zs[i] = z) (hA : ∀ j, j < i → 0 ≤ zs.getD j 0 ∧ zs.getD j 0 < B ∧ (0 < j → zs.getD (j - 1) 0 < zs.getD j 0)) (h1 : 0 ≤ z) (h2 : z < B) (h3 : 0 < i → zs.getD (i - 1) 0 < z) :
    ∀ j, j < i + 1 → 0 ≤ zs.getD j 0 ∧ zs.getD j 0 < B ∧ (0 < j → zs.getD (j - 1) 0 < zs.getD j 0) := by
  intro j hj
  by_cases e : j = i
  · subst e; rw [getD_lt hi, hz]; exact ⟨h1, h2, h3⟩
  · exact hA j (by omega)
set_option maxHeartbeats 4000000 in
theorem implZoneValid_any (B : Int) (A A1 : Option Addr) (c c1 : Nat) (ls : List R3) (zs : List Int) (w : World) (hR : Reads 3 r3C w w.heap.size A ls) (hR1 : Reads 1 intC w w.heap.size A1 zs) (hl : ls.length ≤ 1048576) (hl1 : zs.length ≤ 1048576) :
    Calls Try.prog 12 #[.agg #[.int .i64 B, .slice A ls.length c], .slice A1 zs.length c1] w fun e w' => e = .returned (.bool (netV B ls && zoneV B zs)) ∧ Below w.heap.size w w' := by
  have HR := Lib.hid hR; clear hR
  have HR1 := Lib.hid hR1; clear hR1
  by_cases hv : NetP B ls
  · have hv2 := netV_t.2 hv
    rw [hv2, Bool.true_and]
    have hv3 := Lib.hid hv2
    have h8 := hv.1
    clear hv hv2
    generalize hV : zoneV B zs = V
    have HV := Lib.hid hV; clear hV
    generalize hn : zs.length = n at hl1 ⊢
    have HN := Lib.hid hn; clear hn
    have hv2 := hv3.out
    go_enter Try.func12, Try.ntmps12
    go_wp2_with fail; ((with_reducible refine (implNetValid_any B A c ls _ (HR.out.alloc _) hl).mono ?_); rintro e w1 ⟨rfl, hb_1⟩); have cB0_1 := keepB hb_1 (g := w.heap.size) (by go_size); have fB0_1 := keepF hb_1 (g := w.heap.size) (by go_size); have zB0_1 := keepZ hb_1 (g := w.heap.size) (by go_size); have hz_1 := hb_1.size; (try simp only [World.size_alloc, World.size_setCell, World.size_drew] at hz_1)
    have HB1 : Hid (Below w.heap.size w w1) := by unfold Hid; (repeat' (first | (with_reducible exact Below.refl _ _) | (with_reducible refine Below.alloc ?_ ?_ _) | (with_reducible refine Below.setCell ?_ ?_ _) | (with_reducible refine Below.drew ?_) | (refine Below.trans ?_ (Below.mono (by with_reducible assumption) ?_)) | go_size))
    have HK1 : Hid (Bk w1 w.heap.size 30 #[.int .i64 B, .slice A ls.length c]) := (Bk.new _ _ _).keep hb_1
    clear hb_1 hz_1 hv3 cB0_1 fB0_1 zB0_1
    generalize hln : ls.length = ln at hl HK1
    clear hln
    go_wp2_with fail
    go_loopw [12] (fun t wr => ∃ i : Nat, t = .int .i64 i ∧ i ≤ n ∧ Hid (∀ j, j < i → 0 ≤ zs.getD j 0 ∧ zs.getD j 0 < B ∧ (0 < j → zs.getD (j - 1) 0 < zs.getD j 0)) ∧ Hid (Bk wr w.heap.size 30 #[.int .i64 B, .slice A ln c]) ∧ Hid (Below w.heap.size w wr)) (fun t _ => n - (intOf t).toNat)
    case atStart => exact ⟨0, rfl, Nat.zero_le _, fun j hj => absurd hj (by omega), HK1, HB1⟩
    case round =>
      obtain ⟨i, rfl, hi, HA, HK, HB⟩ := hrel
      clear HB1 HK1
      have cB := HK.out.cell
      have zB := HK.out.lt
      by_cases hlt : i < n
      · have hx : i < zs.length := by rw [HN.out]; exact hlt
        have hi1 : (i : Int) < (n : Int) := by omega
        obtain ⟨b, off, rfl, hb, hc⟩ := HR1.out.at1 hx
        have hc0 : wr.cell? ⟨b, off + i, none⟩ = some (.int .i64 zs[i]) := (HB.out.cell (p := ⟨b, off + i, none⟩) hb).trans hc
        generalize hxx : zs[i] = z at hc0
        have HXX := Lib.hid hxx; clear hxx hc
        have hbw : b < wr.heap.size := Nat.lt_of_lt_of_le hb HB.out.size
        by_cases hh : hasB B z = true
        · have hh2 := hasB_t.1 hh
          by_cases hpos : ¬ (0 : Int) < (i : Int)
          · go_wp2_with fail; ((with_reducible refine (hasBus_any _ _ _ _ _ _).mono ?_); rintro e w2 ⟨rfl, hb_2⟩); have cB0_2 := keepB hb_2 (g := w.heap.size) (by go_size); have fB0_2 := keepF hb_2 (g := w.heap.size) (by go_size); have zB0_2 := keepZ hb_2 (g := w.heap.size) (by go_size); have hz_2 := hb_2.size; (try simp only [World.size_alloc, World.size_setCell, World.size_drew] at hz_2)
            have HB2 : Hid (Below w.heap.size w w2) := HB.out.trans (hb_2.mono HB.out.size)
            have HK2 := Lib.hid (HK.out.keep hb_2)
            clear hb_2
            go_wp2_with fail
            all_goals try (exfalso; omega; done)
            exact ⟨⟨i + 1, by go_num, by omega, zone_prefix (p := 0) hx HXX.out HA.out hh2.1 hh2.2 (fun h => by omega), HK2, HB2⟩, by simp [intOf]; omega⟩
          · obtain ⟨q, rfl⟩ : ∃ q, i = q + 1 := ⟨i - 1, by omega⟩
            have hq : q < zs.length := by omega
            obtain ⟨b', off', e', hb', hc'⟩ := HR1.out.at1 hq
            injection e' with e'; injection e' with e1 e2; subst e1 e2
            have hc1 : wr.cell? ⟨b, off + q, none⟩ = some (.int .i64 zs[q]) := (HB.out.cell (p := ⟨b, off + q, none⟩) hb).trans hc'
            have hqd : zs.getD (q + 1 - 1) 0 = zs[q] := by rw [Nat.add_sub_cancel]; exact getD_lt hq 0
            generalize zs[q] = p at hc1 hqd
            have HQ := Lib.hid hqd; clear hqd hc'
            have e1 : ((q + 1 : Nat) : Int) - 1 = (q : Int) := by omega
            have hq1 : (q : Int) < (n : Int) := by omega
            by_cases hzp : z ≤ p
            · go_wp2_with fail; ((with_reducible refine (hasBus_any _ _ _ _ _ _).mono ?_); rintro e w2 ⟨rfl, hb_2⟩); have cB0_2 := keepB hb_2 (g := w.heap.size) (by go_size); have fB0_2 := keepF hb_2 (g := w.heap.size) (by go_size); have zB0_2 := keepZ hb_2 (g := w.heap.size) (by go_size); have cB1_2 := keepB hb_2 (g := b) (by go_size); have fB1_2 := keepF hb_2 (g := b) (by go_size); have zB1_2 := keepZ hb_2 (g := b) (by go_size); have hz_2 := hb_2.size; (try simp only [World.size_alloc, World.size_setCell, World.size_drew] at hz_2)
              have HB2 : Hid (Below w.heap.size w w2) := HB.out.trans (hb_2.mono HB.out.size)
              clear hb_2
              go_wp2_with fail
              all_goals try (exfalso; omega; done)
              all_goals (go_ret; have hV := HV.out; rw [zoneV_f.2 (fun hp => by have := (hp (q + 1) hx).2.2 (by omega); rw [HQ.out, getD_lt hx, HXX.out] at this; omega)] at hV; exact ⟨by rw [← hV]; rfl, HB2.out⟩)
            · go_wp2_with fail; ((with_reducible refine (hasBus_any _ _ _ _ _ _).mono ?_); rintro e w2 ⟨rfl, hb_2⟩); have cB0_2 := keepB hb_2 (g := w.heap.size) (by go_size); have fB0_2 := keepF hb_2 (g := w.heap.size) (by go_size); have zB0_2 := keepZ hb_2 (g := w.heap.size) (by go_size); have cB1_2 := keepB hb_2 (g := b) (by go_size); have fB1_2 := keepF hb_2 (g := b) (by go_size); have zB1_2 := keepZ hb_2 (g := b) (by go_size); have hz_2 := hb_2.size; (try simp only [World.size_alloc, World.size_setCell, World.size_drew] at hz_2)
              have HB2 : Hid (Below w.heap.size w w2) := HB.out.trans (hb_2.mono HB.out.size)
              have HK2 := Lib.hid (HK.out.keep hb_2)
              clear hb_2
              go_wp2_with fail
              all_goals try (exfalso; omega; done)
              exact ⟨⟨q + 1 + 1, by go_num, by omega, zone_prefix (p := p) hx HXX.out HA.out hh2.1 hh2.2 (fun h => by rw [HQ.out]; omega), HK2, HB2⟩, by simp [intOf]; omega⟩
        · have hh3 : hasB B z = false := by simpa using hh
          have HNB := Lib.hid (hasB_f.1 hh3)
          go_wp2_with fail; ((with_reducible refine (hasBus_any _ _ _ _ _ _).mono ?_); rintro e w2 ⟨rfl, hb_2⟩); have cB0_2 := keepB hb_2 (g := w.heap.size) (by go_size); have fB0_2 := keepF hb_2 (g := w.heap.size) (by go_size); have zB0_2 := keepZ hb_2 (g := w.heap.size) (by go_size); have hz_2 := hb_2.size; (try simp only [World.size_alloc, World.size_setCell, World.size_drew] at hz_2)
          have HB2 : Hid (Below w.heap.size w w2) := HB.out.trans (hb_2.mono HB.out.size)
          clear hb_2
          go_wp2_with fail
          go_ret
          have hV := HV.out
          rw [zoneV_f.2 (fun hp => by have := hp i hx; rw [getD_lt hx, HXX.out] at this; exact HNB.out ⟨this.1, this.2.1⟩)] at hV
          exact ⟨by rw [← hV]; rfl, HB2.out⟩
      · go_wp2
        go_ret
        have hV := HV.out
        have hn := HN.out
        rw [zoneV_t.2 (fun j hj => HA.out j (by omega))] at hV
        exact ⟨by rw [← hV]; rfl, HB.out⟩
  · have hv2 := netV_f.2 hv
    rw [hv2, Bool.false_and]
    have hv3 := Lib.hid hv2
    clear hv hv2
    have hv2 := hv3.out
    go_enter Try.func12, Try.ntmps12
    go_wp2_with fail; ((with_reducible refine (implNetValid_any B A c ls _ (HR.out.alloc _) hl).mono ?_); rintro e w1 ⟨rfl, hb_1⟩); have cB0_1 := keepB hb_1 (g := w.heap.size) (by go_size); have fB0_1 := keepF hb_1 (g := w.heap.size) (by go_size); have zB0_1 := keepZ hb_1 (g := w.heap.size) (by go_size); have hz_1 := hb_1.size; (try simp only [World.size_alloc, World.size_setCell, World.size_drew] at hz_1)
    go_wp2_with fail
    go_ret
    refine ⟨rfl, ?_⟩; (repeat' (first | (with_reducible exact Below.refl _ _) | (with_reducible refine Below.alloc ?_ ?_ _) | (with_reducible refine Below.setCell ?_ ?_ _) | (with_reducible refine Below.drew ?_) | (refine Below.trans ?_ (Below.mono (by with_reducible assumption) ?_)) | go_size))
end Go.Proofs.Ytdfgdeccejcpfaa
