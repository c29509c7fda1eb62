/- Relays: which one trips first, the program's and the reference's. -/
import Derived.Test.YtkndokcpnlbipaaDoorRlA
namespace Go.Proofs.YtkndokcpnlbipaaDoor
open Go.RowKit
set_option linter.unusedSimpArgs false
set_option linter.unusedVariables false
def tAt (xs : List R2) (c : Int) (j : Nat) : Int := srt (xs.getD j ⟨0, 0⟩).a (xs.getD j ⟨0, 0⟩).b c
theorem tAt_get {xs : List R2} {c : Int} {j : Nat} (h : j < xs.length) : tAt xs c j = srt xs[j].a xs[j].b c := by
  unfold tAt; rw [List.getD_eq_getElem?_getD, List.getElem?_eq_getElem h]; rfl
def TripPre (xs : List R2) (c : Int) (i : Nat) (f : Int) : Prop :=
  (f = -1 ∧ ∀ j, j < i → tAt xs c j < 0) ∨ ∃ q : Nat, f = q ∧ q < i ∧ 0 ≤ tAt xs c q ∧ ∀ j, j < i → 0 ≤ tAt xs c j → tAt xs c q ≤ tAt xs c j ∧ (q < j → tAt xs c q < tAt xs c j)
theorem TripPre.zero (xs : List R2) (c : Int) : TripPre xs c 0 (-1) := .inl ⟨rfl, fun j hj => by omega⟩
theorem TripPre.take {xs : List R2} {c f : Int} {i : Nat} (h : TripPre xs c i f) (h0 : 0 ≤ tAt xs c i) (h1 : f < 0 ∨ tAt xs c i ≤ tAt xs c f.toNat) : TripPre xs c (i + 1) i := by
  refine .inr ⟨i, rfl, by omega, h0, fun j hj ht => ?_⟩
  rcases h with ⟨rfl, h⟩ | ⟨q, rfl, hq, h2, h3⟩
  · by_cases e : j = i
    · subst e; exact ⟨Int.le_refl _, fun h => by omega⟩
    · have := h j (by omega); omega
  · by_cases e : j = i
    · subst e; exact ⟨Int.le_refl _, fun h => by omega⟩
    · have := h3 j (by omega) ht
      rw [Int.toNat_natCast] at h1
      exact ⟨by omega, fun h => by omega⟩
theorem TripPre.skip {xs : List R2} {c f : Int} {i : Nat} (h : TripPre xs c i f) (h1 : ¬ (0 ≤ tAt xs c i ∧ (f < 0 ∨ tAt xs c i ≤ tAt xs c f.toNat))) : TripPre xs c (i + 1) f := by
  rcases h with ⟨rfl, h⟩ | ⟨q, rfl, hq, h2, h3⟩
  · refine .inl ⟨rfl, fun j hj => ?_⟩
    by_cases e : j = i
    · subst e; omega
    · exact h j (by omega)
  · refine .inr ⟨q, rfl, by omega, h2, fun j hj ht => ?_⟩
    rw [Int.toNat_natCast] at h1
    by_cases e : j = i
    · subst e; exact ⟨by omega, fun _ => by omega⟩
    · exact h3 j (by omega) ht
theorem TripPre.done {xs : List R2} {c f : Int} (h : TripPre xs c xs.length f) (hg : TripG xs) : TripIs xs c f := by
  rcases h with ⟨rfl, h⟩ | ⟨q, rfl, hq, h2, h3⟩
  · exact .inl ⟨rfl, .inr fun j hj => by rw [← tAt_get hj]; exact h j hj⟩
  · refine .inr ⟨hg, q, rfl, hq, by rw [← tAt_get hq]; exact h2, fun j hj ht => ?_⟩
    rw [← tAt_get hj] at ht ⊢
    rw [← tAt_get hq]
    exact h3 j hj ht
theorem TripPre.bd {xs : List R2} {c f : Int} {i : Nat} (h : TripPre xs c i f) : -1 ≤ f ∧ f < i ∧ (f < 0 → f = -1) := by
  rcases h with ⟨rfl, _⟩ | ⟨q, rfl, hq, _⟩ <;> omega
theorem trip_bad {xs : List R2} {c : Int} (h : ¬ TripG xs ∨ ¬ (0 ≤ c ∧ c ≤ 400)) : TripIs xs c (-1) := by
  rcases h with h | h
  · exact .inl ⟨rfl, .inl h⟩
  · refine .inl ⟨rfl, .inr fun j hj => ?_⟩
    rcases srt_cases (p := xs[j].a) (d := xs[j].b) (c := c) with ⟨h1, h2, h3, _⟩ | ⟨_, h2⟩
    · unfold RelP at h1; omega
    · omega
def RetTrip (w : World) (xs : List R2) (c : Int) (e : Ending) (w' : World) : Prop := ∃ x : Int, e = .returned (.int .i64 x) ∧ TripIs xs c x ∧ Below w.heap.size w w'
set_option maxHeartbeats 2000000 in
theorem implFirstTrip_any (A : Option Addr) (n cp : Nat) (xs : List R2) (c : Int) (w : World) (hn : xs.length = n) (hR : Reads 2 r2C w w.heap.size A xs) (hl : n ≤ 1048576) :
    Calls Tryd.prog 17 #[.slice A n cp, .int .i64 c] w (RetTrip w xs c) := by
  have HN := Lib.hid hn; clear hn
  have HR := Lib.hid hR; clear hR
  by_cases hg : n ≤ 10 ∧ 0 ≤ c ∧ c ≤ 400
  · obtain ⟨h10, hc0, hc4⟩ := hg
    have hcv : inB c 0 400 = true := inB_t.2 ⟨hc0, hc4⟩
    go_enter Tryd.func17, Tryd.ntmps17
    go_wp2_with (first | (go_at_call 34; refine (currentValid_any _ _).mono ?_; rintro e w' ⟨rfl, rfl⟩))
    go_loopw [5, 6, 20] (fun t5 t6 t20 wr => ∃ (i : Nat) (f l : Int), t20 = .int .i64 i ∧ i ≤ n ∧ t5 = .int .i64 f ∧ t6 = .int .i64 l ∧ Hid (TripPre xs c i f ∧ (0 ≤ f → l = tAt xs c f.toNat)) ∧ Hid (∀ j (hj : j < xs.length), j < i → RelP xs[j].a xs[j].b) ∧ Hid (Below w.heap.size w wr)) (fun _ _ t20 _ => n - (intOf t20).toNat)
    case atStart => exact ⟨0, -1, 0, rfl, Nat.zero_le _, rfl, rfl, ⟨TripPre.zero _ _, fun h => by omega⟩, fun j _ hj => by omega, Below.refl _ _⟩
    case round =>
      obtain ⟨i, f, l, rfl, hi, rfl, rfl, HT, HV, HBr⟩ := hrel
      by_cases hlt : i < n
      · have hx : i < xs.length := by rw [HN.out]; exact hlt
        obtain ⟨b, off, rfl, hb, hx0, hx1⟩ := HR.out.at2 hx
        have hx0 := (HBr.out.cell (p := ⟨b, off + i * 2, none⟩) hb).trans hx0
        have hx1 := (HBr.out.cell (p := ⟨b, off + i * 2 + 1, none⟩) hb).trans hx1
        have ht : tAt xs c i = srt xs[i].a xs[i].b c := tAt_get hx
        generalize hxx : xs[i] = x at hx0 hx1 ht
        have HXX := Lib.hid hxx; clear hxx
        have HTT := Lib.hid ht; clear ht
        have hbw : b < wr.heap.size := Nat.lt_of_lt_of_le hb HBr.out.size
        by_cases hv : RelP x.a x.b
        · have hv' := relV_t.2 hv
          have HVX := Lib.hid hv; clear hv
          go_wp2_with fail; ((with_reducible refine (implRelayValid_any _ _ _).mono ?_); rintro e w1 ⟨rfl, hb_1⟩); have cB0_1 := keepB hb_1 (g := wr.heap.size) (by go_size); have fB0_1 := keepF hb_1 (g := wr.heap.size) (by go_size); have zB0_1 := keepZ hb_1 (g := wr.heap.size) (by go_size); have hz_1 := hb_1.size; (try simp only [World.size_alloc, World.size_setCell, World.size_drew] at hz_1)
          go_wp2_with fail; ((with_reducible refine (time_any _ _ _ _ HVX.out hc0 hc4).mono ?_); rintro e w2 ⟨rfl, hb_2⟩); have cB0_2 := keepB hb_2 (g := wr.heap.size) (by go_size); have fB0_2 := keepF hb_2 (g := wr.heap.size) (by go_size); have zB0_2 := keepZ hb_2 (g := wr.heap.size) (by go_size); have hz_2 := hb_2.size; (try simp only [World.size_alloc, World.size_setCell, World.size_drew] at hz_2)
          have hsr := srt_in HVX.out hc4
          rw [← HTT.out] at hsr
          rw [← hsr]
          have hbd : -1 ≤ tAt xs c i ∧ tAt xs c i ≤ 6000 := by rw [HTT.out]; exact srt_bd
          have hHV : Hid (∀ j (hj : j < xs.length), j < i + 1 → RelP xs[j].a xs[j].b) := by
            intro j hj hji
            by_cases e : j = i
            · subst e; rw [HXX.out]; exact HVX.out
            · exact HV.out j hj (by omega)
          have hfb := HT.out.1.bd
          have hBw : Hid (Below w.heap.size w w2) := by unfold Hid; have hq := HBr.out; have hqz := hq.size; (repeat' (first | (with_reducible exact Below.refl _ _) | (with_reducible refine Below.alloc ?_ ?_ _) | (with_reducible refine Below.setCell ?_ ?_ _) | (with_reducible refine Below.drew ?_) | (refine Below.trans ?_ (Below.mono (by with_reducible assumption) ?_)) | go_size))
          obtain ⟨hbd0, hbd1⟩ := hbd
          clear hsr
          by_cases htk : 0 ≤ tAt xs c i ∧ (f < 0 ∨ tAt xs c i ≤ tAt xs c f.toNat)
          · have hT2 := HT.out.1.take htk.1 htk.2
            have HT2 := Lib.hid hT2; clear hT2
            have h1 : 0 ≤ tAt xs c i := htk.1
            have h2 : f < 0 ∨ (0 ≤ f ∧ tAt xs c i ≤ l) := by
              rcases htk.2 with h | h
              · exact .inl h
              · by_cases hf : f < 0
                · exact .inl hf
                · right; refine ⟨by omega, ?_⟩; rw [HT.out.2 (by omega)]; exact h
            have HTi : Hid ((0 : Int) ≤ (i : Int) → tAt xs c i = tAt xs c (i : Int).toNat) := fun _ => by rw [Int.toNat_natCast]
            clear htk
            generalize tAt xs c i = T at *
            rcases h2 with h2 | ⟨h2, h3⟩
            · go_wp2_with fail
              all_goals try (exfalso; omega; done)
              exact ⟨⟨i + 1, i, T, by go_num, by omega, rfl, rfl, ⟨HT2.out, HTi.out⟩, hHV, hBw⟩, by simp [intOf]; omega⟩
            · have h2' : ¬ f < 0 := by omega
              go_wp2_with fail
              all_goals try (exfalso; omega; done)
              exact ⟨⟨i + 1, i, T, by go_num, by omega, rfl, rfl, ⟨HT2.out, HTi.out⟩, hHV, hBw⟩, by simp [intOf]; omega⟩
          · have hT2 := HT.out.1.skip htk
            have HT2 := Lib.hid (And.intro hT2 HT.out.2); clear hT2
            have h2 : tAt xs c i < 0 ∨ (0 ≤ tAt xs c i ∧ 0 ≤ f ∧ l < tAt xs c i) := by
              by_cases h0 : 0 ≤ tAt xs c i
              · by_cases hf : f < 0
                · exact absurd ⟨h0, .inl hf⟩ htk
                · right
                  refine ⟨h0, by omega, ?_⟩
                  rw [HT.out.2 (by omega)]
                  rcases Int.lt_or_le (tAt xs c f.toNat) (tAt xs c i) with h | h
                  · exact h
                  · exact absurd ⟨h0, .inr h⟩ htk
              · left; omega
            clear htk
            generalize tAt xs c i = T at *
            rcases h2 with h2 | ⟨h2, h3, h4⟩
            · go_wp2_with fail
              all_goals try (exfalso; omega; done)
              exact ⟨⟨i + 1, f, l, by go_num, by omega, rfl, rfl, HT2, hHV, hBw⟩, by simp [intOf]; omega⟩
            · have h3' : ¬ f < 0 := by omega
              go_wp2_with fail
              all_goals try (exfalso; omega; done)
              exact ⟨⟨i + 1, f, l, by go_num, by omega, rfl, rfl, HT2, hHV, hBw⟩, by simp [intOf]; omega⟩
        · have hv' := relV_f.2 hv
          have hbad : Hid (TripIs xs c (-1)) := trip_bad (.inl fun hg => hv (by rw [← HXX.out]; exact hg.2 _ (List.getElem_mem hx)))
          clear hv
          go_wp2_with fail; ((with_reducible refine (implRelayValid_any _ _ _).mono ?_); rintro e w1 ⟨rfl, hb_3⟩); have cB0_3 := keepB hb_3 (g := wr.heap.size) (by go_size); have fB0_3 := keepF hb_3 (g := wr.heap.size) (by go_size); have zB0_3 := keepZ hb_3 (g := wr.heap.size) (by go_size); have hz_3 := hb_3.size; (try simp only [World.size_alloc, World.size_setCell, World.size_drew] at hz_3)
          go_wp2_with fail
          go_ret
          refine ⟨-1, rfl, hbad.out, ?_⟩
          have hq := HBr.out; have hqz := hq.size; (repeat' (first | (with_reducible exact Below.refl _ _) | (with_reducible refine Below.alloc ?_ ?_ _) | (with_reducible refine Below.setCell ?_ ?_ _) | (with_reducible refine Below.drew ?_) | (refine Below.trans ?_ (Below.mono (by with_reducible assumption) ?_)) | go_size))
      · go_wp2_with fail
        go_ret
        have hin : i = xs.length := by rw [HN.out]; omega
        refine ⟨f, rfl, TripPre.done (by rw [← hin]; exact HT.out.1) ⟨by rw [HN.out]; exact h10, fun x hx => ?_⟩, HBr.out⟩
        obtain ⟨j, hj, rfl⟩ := List.mem_iff_getElem.1 hx
        exact HV.out j hj (by omega)
  · have hbad : Hid (TripIs xs c (-1)) := by
      refine trip_bad ?_
      by_cases h10 : n ≤ 10
      · exact .inr (fun hc => hg ⟨h10, hc⟩)
      · exact .inl (fun h => h10 (by rw [← HN.out]; exact h.1))
    by_cases h10 : n ≤ 10
    · have hcv : inB c 0 400 = false := inB_f.2 (fun hc => hg ⟨h10, hc⟩)
      clear hg
      go_enter Tryd.func17, Tryd.ntmps17
      go_wp2_with (first | (go_at_call 34; refine (currentValid_any _ _).mono ?_; rintro e w' ⟨rfl, rfl⟩))
      go_ret
      exact ⟨-1, rfl, hbad.out, Below.refl _ _⟩
    · have h10' : (10 : Int) < n := by omega
      clear hg
      go_enter Tryd.func17, Tryd.ntmps17
      go_wp2_with fail
      go_ret
      exact ⟨-1, rfl, hbad.out, Below.refl _ _⟩
end Go.Proofs.YtkndokcpnlbipaaDoor
