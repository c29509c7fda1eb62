/- Relays: which one trips first, the reference's. -/
import Derived.Test.YtkndokcpnlbipaaDoorRlB
namespace Go.Proofs.YtkndokcpnlbipaaDoor
open Go.RowKit
set_option linter.unusedSimpArgs false
set_option linter.unusedVariables false
theorem relP_I64 {p d : Int} (h : RelP p d) : I64 p := by unfold RelP at h; unfold I64; omega
set_option maxHeartbeats 4000000 in
theorem specFirstTrip_any (A : Option Addr) (n cp : Nat) (xs : List R2) (c : Int) (w : World) (hn : xs.length = n) (hR : Reads 2 r2C w w.heap.size A xs) (hl : n ≤ 1048576) (hc : I64 c) :
    Calls Tryd.prog 18 #[.slice A n cp, .int .i64 c] w (RetTrip w xs c) := by
  have HN := Lib.hid hn; clear hn
  have HR := Lib.hid hR; clear hR
  have HC := Lib.hid hc; clear hc
  go_enter Tryd.func18, Tryd.ntmps18
  go_wp2_with fail
  go_loopw [5, 6] (fun t5 t6 wr => ∃ (i : Nat) (f : Int), t6 = .int .i64 i ∧ i ≤ n ∧ (0 < i → n ≤ 10) ∧ t5 = .int .i64 f ∧ Hid (TripPre xs c i f) ∧ Hid (∀ j (hj : j < xs.length), j < i → RelP xs[j].a xs[j].b) ∧ Hid (Below w.heap.size w wr)) (fun _ t6 _ => n - (intOf t6).toNat)
  case atStart => exact ⟨0, -1, rfl, Nat.zero_le _, fun h => by omega, rfl, TripPre.zero _ _, fun j _ hj => by omega, Below.refl _ _⟩
  case round =>
    obtain ⟨i, f, rfl, hi, hi10, rfl, HT, HV, HBr⟩ := hrel
    by_cases hlt : i < n
    · have hx : i < xs.length := by rw [HN.out]; exact hlt
      obtain ⟨b, off, rfl, hb, hx0, hx1⟩ := HR.out.at2 hx
      have hx0 := (HBr.out.cell (p := ⟨b, off + i * 2, none⟩) hb).trans hx0
      have hx1 := (HBr.out.cell (p := ⟨b, off + i * 2 + 1, none⟩) hb).trans hx1
      have ht : tAt xs c i = srt xs[i].a xs[i].b c := tAt_get hx
      generalize hxx : xs[i] = x at hx0 hx1 ht
      have HXX := Lib.hid hxx; clear hxx
      have HTT := Lib.hid ht; clear ht
      have hbw : b < wr.heap.size := Nat.lt_of_lt_of_le hb HBr.out.size
      by_cases hv : RelP x.a x.b ∧ n ≤ 10
      · obtain ⟨hv, h10⟩ := hv
        have hv' := relV_t.2 hv
        have HVX := Lib.hid hv; clear hv
        go_wp2_with fail; ((with_reducible refine (specRelayValid_any _ _ _).mono ?_); rintro e w1 ⟨rfl, hb_1⟩); have cB0_1 := keepB hb_1 (g := b) (by go_size); have fB0_1 := keepF hb_1 (g := b) (by go_size); have zB0_1 := keepZ hb_1 (g := b) (by go_size); have hz_1 := hb_1.size; (try simp only [World.size_alloc, World.size_setCell, World.size_drew] at hz_1)
        go_wp2_with fail; ((with_reducible refine (specRelayTime_any _ _ _ _ (relP_I64 HVX.out) HC.out).mono ?_); rintro e w2 ⟨rfl, hb_2⟩); have cB0_2 := keepB hb_2 (g := b) (by go_size); have fB0_2 := keepF hb_2 (g := b) (by go_size); have zB0_2 := keepZ hb_2 (g := b) (by go_size); have hz_2 := hb_2.size; (try simp only [World.size_alloc, World.size_setCell, World.size_drew] at hz_2)
        rw [← HTT.out]
        have hbd : -1 ≤ tAt xs c i ∧ tAt xs c i ≤ 6000 := by rw [HTT.out]; exact srt_bd
        have hHV : Hid (∀ j (hj : j < xs.length), j < i + 1 → RelP xs[j].a xs[j].b) := by
          intro j hj hji
          by_cases e : j = i
          · subst e; rw [HXX.out]; exact HVX.out
          · exact HV.out j hj (by omega)
        have hfb := HT.out.bd
        have hBw : Hid (Below w.heap.size w w2) := by unfold Hid; have hq := HBr.out; have hqz := hq.size; (repeat' (first | (with_reducible exact Below.refl _ _) | (with_reducible refine Below.alloc ?_ ?_ _) | (with_reducible refine Below.setCell ?_ ?_ _) | (with_reducible refine Below.drew ?_) | (refine Below.trans ?_ (Below.mono (by with_reducible assumption) ?_)) | go_size))
        obtain ⟨hbd0, hbd1⟩ := hbd
        by_cases h0 : tAt xs c i < 0
        · have hT2 := HT.out.skip (fun h => by omega)
          have HT2 := Lib.hid hT2; clear hT2
          generalize tAt xs c i = T at *
          go_wp2_with fail
          all_goals try (exfalso; omega; done)
          exact ⟨⟨i + 1, f, by go_num, by omega, fun _ => h10, rfl, HT2, hHV, hBw⟩, by simp [intOf]; omega⟩
        · have h0' : 0 ≤ tAt xs c i := by omega
          by_cases hf : f < 0
          · have hT2 := HT.out.take h0' (.inl hf)
            have HT2 := Lib.hid hT2; clear hT2
            generalize tAt xs c i = T at *
            go_wp2_with fail
            all_goals try (exfalso; omega; done)
            exact ⟨⟨i + 1, i, by go_num, by omega, fun _ => h10, rfl, HT2, hHV, hBw⟩, by simp [intOf]; omega⟩
          · obtain ⟨q, rfl⟩ : ∃ q : Nat, f = q := ⟨f.toNat, by omega⟩
            have hq : q < xs.length := by rw [HN.out]; omega
            have htq : tAt xs c q = srt xs[q].a xs[q].b c := tAt_get hq
            obtain ⟨b', off', e, _, hq0, hq1⟩ := HR.out.at2 hq
            injection e with e; injection e with e1 e2; subst e1 e2
            have hq0 := (HBr.out.cell (p := ⟨b, off + q * 2, none⟩) hb).trans hq0
            have hq1 := (HBr.out.cell (p := ⟨b, off + q * 2 + 1, none⟩) hb).trans hq1
            have hvq := HV.out q hq (by omega)
            generalize xs[q] = y at hq0 hq1 htq hvq
            have HVQ := Lib.hid hvq; clear hvq
            have hsw : Hid (∀ W : World, Calls Tryd.prog 11 #[.agg #[.int .i64 y.a, .int .i64 y.b], .int .i64 c] W fun e w' => e = .returned (.int .i64 (tAt xs c q)) ∧ Below W.heap.size W w') := fun W => by
              have := specRelayTime_any y.a y.b c W (relP_I64 HVQ.out) HC.out
              rwa [← htq] at this
            clear htq
            have hfn : ¬ ((q : Int) < 0) := hf
            have hqn : (q : Int) < (n : Int) := by omega
            by_cases hle : tAt xs c i ≤ tAt xs c q
            · have hT2 := HT.out.take h0' (.inr (by rw [Int.toNat_natCast]; exact hle))
              have HT2 := Lib.hid hT2; clear hT2
              generalize tAt xs c i = T at *
              generalize tAt xs c q = U at *
              go_wp2_with fail; ((with_reducible refine (hsw.out _).mono ?_); rintro e w3 ⟨rfl, hb_3⟩); have hz_3 := hb_3.size; (try simp only [World.size_alloc, World.size_setCell, World.size_drew] at hz_3)
              have hBw3 : Hid (Below w.heap.size w w3) := hBw.out.trans (hb_3.mono hBw.out.size)
              go_wp2_with fail
              all_goals try (exfalso; omega; done)
              exact ⟨⟨i + 1, i, by go_num, by omega, fun _ => h10, rfl, HT2, hHV, hBw3⟩, by simp [intOf]; omega⟩
            · have hT2 := HT.out.skip (fun h => by rw [Int.toNat_natCast] at h; omega)
              have HT2 := Lib.hid hT2; clear hT2
              generalize tAt xs c i = T at *
              generalize tAt xs c q = U at *
              go_wp2_with fail; ((with_reducible refine (hsw.out _).mono ?_); rintro e w3 ⟨rfl, hb_4⟩); have hz_4 := hb_4.size; (try simp only [World.size_alloc, World.size_setCell, World.size_drew] at hz_4)
              have hBw3 : Hid (Below w.heap.size w w3) := hBw.out.trans (hb_4.mono hBw.out.size)
              go_wp2_with fail
              all_goals try (exfalso; omega; done)
              exact ⟨⟨i + 1, q, by go_num, by omega, fun _ => h10, rfl, HT2, hHV, hBw3⟩, by simp [intOf]; omega⟩
      · have hbad : Hid (TripIs xs c (-1)) := trip_bad (.inl fun hg => hv ⟨by rw [← HXX.out]; exact hg.2 _ (List.getElem_mem hx), by rw [← HN.out]; exact hg.1⟩)
        have HNV := Lib.hid hv; clear hv
        by_cases hv : relV x.a x.b = true
        · have h10 : (10 : Int) < n := by
            have := HNV.out
            have hv2 := relV_t.1 hv
            by_cases h : n ≤ 10
            · exact absurd ⟨hv2, h⟩ this
            · omega
          go_wp2_with fail; ((with_reducible refine (specRelayValid_any _ _ _).mono ?_); rintro e w1 ⟨rfl, hb_5⟩); have cB0_5 := keepB hb_5 (g := b) (by go_size); have fB0_5 := keepF hb_5 (g := b) (by go_size); have zB0_5 := keepZ hb_5 (g := b) (by go_size); have hz_5 := hb_5.size; (try simp only [World.size_alloc, World.size_setCell, World.size_drew] at hz_5)
          go_wp2_with fail
          go_ret
          refine ⟨-1, rfl, hbad.out, ?_⟩
          have hq := HBr.out; have hqz := hq.size; (repeat' (first | (with_reducible exact Below.refl _ _) | (with_reducible refine Below.alloc ?_ ?_ _) | (with_reducible refine Below.setCell ?_ ?_ _) | (with_reducible refine Below.drew ?_) | (refine Below.trans ?_ (Below.mono (by with_reducible assumption) ?_)) | go_size))
        · have hv' : relV x.a x.b = false := by simpa using hv
          clear hv
          go_wp2_with fail; ((with_reducible refine (specRelayValid_any _ _ _).mono ?_); rintro e w1 ⟨rfl, hb_6⟩); have cB0_6 := keepB hb_6 (g := b) (by go_size); have fB0_6 := keepF hb_6 (g := b) (by go_size); have zB0_6 := keepZ hb_6 (g := b) (by go_size); have hz_6 := hb_6.size; (try simp only [World.size_alloc, World.size_setCell, World.size_drew] at hz_6)
          go_wp2_with fail
          go_ret
          refine ⟨-1, rfl, hbad.out, ?_⟩
          have hq := HBr.out; have hqz := hq.size; (repeat' (first | (with_reducible exact Below.refl _ _) | (with_reducible refine Below.alloc ?_ ?_ _) | (with_reducible refine Below.setCell ?_ ?_ _) | (with_reducible refine Below.drew ?_) | (refine Below.trans ?_ (Below.mono (by with_reducible assumption) ?_)) | go_size))
    · go_wp2_with fail
      go_ret
      have hin : i = xs.length := by rw [HN.out]; omega
      refine ⟨f, rfl, TripPre.done (by rw [← hin]; exact HT.out) ⟨?_, fun x hx => ?_⟩, HBr.out⟩
      · by_cases h0 : 0 < i
        · rw [HN.out]; exact hi10 h0
        · omega
      · obtain ⟨j, hj, rfl⟩ := List.mem_iff_getElem.1 hx
        exact HV.out j hj (by omega)
end Go.Proofs.YtkndokcpnlbipaaDoor
