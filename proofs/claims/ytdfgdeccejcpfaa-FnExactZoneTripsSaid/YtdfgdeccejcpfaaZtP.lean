/- Zones that trip: plain words, and impl.ZoneTrips. -/
import Derived.Test.YtdfgdeccejcpfaaZd
import Derived.Test.YtdfgdeccejcpfaaOpen
import Derived.Test.YtdfgdeccejcpfaaAppG
namespace Go.Proofs.Ytdfgdeccejcpfaa
open Go.RowKit Go.Deep
set_option linter.unusedSimpArgs false
set_option linter.unusedVariables false
theorem Own.monoT {α : Type} {k : Nat} {c : α → Nat → Value} {T : TypeId} {w : World} {B B' : Nat} {v : Value} {xs : List α} (h : Own k c T w B v xs) (hb : B' ≤ B) : Own k c T w B' v xs := by
  refine ⟨h.1, ?_⟩
  rcases h.2 with h | ⟨g, cap, cur, e, hB, h⟩
  · exact .inl h
  · exact .inr ⟨g, cap, cur, e, by omega, h⟩
def zAt (zss : List SV) (k : Nat) : List Int := (zss.getD k ⟨none, 0, []⟩).xs
def tripOk (D : Nat → Int) (n : Nat) (S : Int) : Prop := 0 ≤ S ∧ ∀ k, k < n → 0 ≤ D k
/-- What both ZoneTrips return. -/
noncomputable def ztO (D : Nat → Int) (n : Nat) (S : Int) : List Int := @ite _ (tripOk D n S) (Classical.propDecidable _) (idxL (fun k => decide (S < D k)) n) []
theorem ztO_t {D : Nat → Int} {n : Nat} {S : Int} (h : tripOk D n S) : ztO D n S = idxL (fun k => decide (S < D k)) n := by unfold ztO; rw [if_pos h]
theorem ztO_f {D : Nat → Int} {n : Nat} {S : Int} (h : ¬ tripOk D n S) : ztO D n S = [] := by unfold ztO; rw [if_neg h]
theorem ztO_len (D : Nat → Int) (n : Nat) (S : Int) : (ztO D n S).length ≤ n := by
  unfold ztO
  split
  · exact idxL_len _ _
  · simp
theorem idxD_t {D : Nat → Int} {S : Int} {k : Nat} (h : S < D k) : idxL (fun k => decide (S < D k)) (k + 1) = idxL (fun k => decide (S < D k)) k ++ [(k : Int)] := by
  show idxL _ k ++ (if decide (S < D k) = true then [(k : Int)] else []) = _
  rw [if_pos (decide_eq_true h)]
theorem idxD_f {D : Nat → Int} {S : Int} {k : Nat} (h : ¬ S < D k) : idxL (fun k => decide (S < D k)) (k + 1) = idxL (fun k => decide (S < D k)) k := by
  show idxL _ k ++ (if decide (S < D k) = true then [(k : Int)] else []) = _
  rw [if_neg (by simpa using h), List.append_nil]
theorem svReads {w : World} {A : Option Addr} {zss : List SV} (hR : Reads 1 svC w w.heap.size A zss) {k : Nat} (hk : k < zss.length) : ∃ b off, A = some ⟨b, off, none⟩ ∧ b < w.heap.size ∧ w.cell? ⟨b, off + k, none⟩ = some (.slice zss[k].A (zAt zss k).length zss[k].c) := by
  obtain ⟨b, off, e, hb, hc⟩ := hR.at1 hk
  refine ⟨b, off, e, hb, ?_⟩
  rw [hc]
  unfold svC zAt
  rw [getD_lt hk]

set_option maxRecDepth 100000 in
set_option maxHeartbeats 8000000 in
theorem implZoneTrips_any (B : Int) (A A1 A2 A3 A4 : Option Addr) (c c1 c2 c3 c4 : Nat) (ls : List R3) (on : List Bool) (bs : List R2) (lk : List Int) (zss : List SV) (S : Int) (w : World) (hR : Reads 3 r3C w w.heap.size A ls) (hR1 : Reads 1 boolC w w.heap.size A1 on) (hR2 : Reads 2 r2C w w.heap.size A2 bs) (hR3 : Reads 1 intC w w.heap.size A3 lk) (hR4 : Reads 1 svC w w.heap.size A4 zss) (hz : ∀ s ∈ zss, s.xs.length ≤ 1048576 ∧ Reads 1 intC w w.heap.size s.A s.xs)
    (hl : ls.length ≤ 1048576) (hl1 : on.length ≤ 1048576) (hl2 : bs.length ≤ 1048576) (hl3 : lk.length ≤ 1048576) (hl4 : zss.length ≤ 1048576) :
    Calls Try.prog 29 #[.agg #[.int .i64 B, .slice A ls.length c], .slice A1 on.length c1, .slice A2 bs.length c2, .slice A3 lk.length c3, .slice A4 zss.length c4, .int .i64 S] w (RetS 1 intC 3 w (ztO (fun k => zdV B ls on bs lk (zAt zss k)) zss.length S)) := by
  have HDC : Hid (∀ W k (hk : k < zss.length), Below w.heap.size w W → Calls Try.prog 25 #[.agg #[.int .i64 B, .slice A ls.length c], .slice A1 on.length c1, .slice A2 bs.length c2, .slice A3 lk.length c3, .slice zss[k].A (zAt zss k).length zss[k].c] W fun e w' => e = .returned (.int .i64 (zdV B ls on bs lk (zAt zss k))) ∧ Below W.heap.size W w') := fun W k hk h => by
    have e : zAt zss k = zss[k].xs := by unfold zAt; rw [getD_lt hk]
    have hzk := hz _ (List.getElem_mem hk)
    rw [e]
    exact implZoneDiff_any B A A1 A2 A3 _ c c1 c2 c3 _ ls on bs lk _ W ((hR.below h (Nat.le_refl _)).more h.size) ((hR1.below h (Nat.le_refl _)).more h.size) ((hR2.below h (Nat.le_refl _)).more h.size) ((hR3.below h (Nat.le_refl _)).more h.size) ((hzk.2.below h (Nat.le_refl _)).more h.size) hl hl1 hl2 hl3 hzk.1
  have HRZ := Lib.hid hR4
  clear hR hR1 hR2 hR3 hR4 hz
  have HDB : Hid (∀ k, -8000 ≤ zdV B ls on bs lk (zAt zss k) ∧ zdV B ls on bs lk (zAt zss k) ≤ 8000) := fun k => zdV_bd B ls on bs lk (zAt zss k)
  obtain ⟨D, hD⟩ : ∃ D : Nat → Int, (fun k => zdV B ls on bs lk (zAt zss k)) = D := ⟨_, rfl⟩
  have hDk : ∀ k, zdV B ls on bs lk (zAt zss k) = D k := fun k => by rw [← hD]
  rw [hD]
  simp only [hDk] at HDC HDB
  clear hD hDk
  have HB0 : Hid (Below w.heap.size w (w.alloc (.cells #[.int .i64 B, .slice A ls.length c] 30))) := Below.alloc (Below.refl _ _) (Nat.le_refl _) _
  have HK0 : Hid (Bk (w.alloc (.cells #[.int .i64 B, .slice A ls.length c] 30)) w.heap.size 30 #[.int .i64 B, .slice A ls.length c]) := Bk.new _ _ _
  by_cases hS : S < 0
  · have HNO : Hid (ztO D zss.length S = []) := ztO_f (fun h => by have := h.1; omega)
    go_enter Try.func29, Try.ntmps29
    go_wp2_with fail
    go_ret
    exact ⟨_, rfl, by rw [HNO.out]; exact (Own.nil (B := w.heap.size)).res, HB0.out⟩
  · go_enter Try.func29, Try.ntmps29
    go_wp2_with fail
    go_loopw [13, 21] (fun t13 t21 wr => ∃ i : Nat, t21 = .int .i64 i ∧ i ≤ zss.length ∧ Hid (∀ k, k < i → 0 ≤ D k) ∧ Hid (Own 1 intC 3 wr (w.heap.size + 1) t13 (idxL (fun k => decide (S < D k)) i)) ∧ Hid (Bk wr w.heap.size 30 #[.int .i64 B, .slice A ls.length c]) ∧ Hid (Below w.heap.size w wr)) (fun _ t21 _ => zss.length - (intOf t21).toNat)
    case atStart => exact ⟨0, rfl, Nat.zero_le _, fun k hk => by omega, Own.nil, HK0, HB0⟩
    case round =>
      obtain ⟨i, rfl, hi, HG, HV, HK, HB⟩ := hrel
      clear HK0 HB0
      obtain ⟨vA, vc, hv⟩ := HV.out.slice
      subst hv
      have hil := idxL_len (fun k => decide (S < D k)) i
      have hzw := HB.out.size
      have hzk := HK.out.lt
      by_cases hlt : i < zss.length
      · have hi1 : (i : Int) < (zss.length : Int) := by omega
        have hi0 : (0 : Int) ≤ (i : Int) := by omega
        obtain ⟨b, off, hA4, hb, hc⟩ := svReads HRZ.out hlt
        subst hA4
        have hc' := (HB.out.cell (p := ⟨b, off + i, none⟩) hb).trans hc
        have c0 : wr.cell? ⟨w.heap.size, 0, none⟩ = some (.int .i64 B) := HK.out.cell 0
        have c1' : wr.cell? ⟨w.heap.size, 1, none⟩ = some (.slice A ls.length c) := HK.out.cell 1
        have hdb := HDB.out i
        go_wp2_with fail
        refine (HDC.out wr i hlt HB.out).mono ?_
        rintro e w2 ⟨rfl, hb2⟩
        have HV2 := Lib.hid (HV.out.keep hb2)
        have HK2 := Lib.hid (HK.out.keep hb2)
        have HB2 : Hid (Below w.heap.size w w2) := HB.out.trans (hb2.mono HB.out.size)
        have hz2 := HB2.out.size
        have hzk2 := HK2.out.lt
        clear hb2 hc hc' c0 c1' HV HK HB
        obtain ⟨d, hd⟩ : ∃ d, D i = d := ⟨_, rfl⟩
        rw [hd] at hdb ⊢
        have HD := Lib.hid hd; clear hd
        by_cases hn : d < 0
        · have HNO : Hid (ztO D zss.length S = []) := ztO_f (fun h => by have := h.2 i hlt; rw [HD.out] at this; omega)
          go_wp2_with fail
          go_ret
          exact ⟨_, rfl, by rw [HNO.out]; exact (Own.nil (B := w.heap.size)).res, HB2.out⟩
        · have HG2 : Hid (∀ k, k < i + 1 → 0 ≤ D k) := fun k hk => by
            by_cases e : k = i
            · subst e; rw [HD.out]; omega
            · exact HG.out k (by omega)
          by_cases hs : S < d
          · have HID := Lib.hid (idxD_t (D := D) (S := S) (k := i) (by rw [HD.out]; exact hs))
            have hil2 : (idxL (fun k => decide (S < D k)) i).length ≤ 1048576 := by omega
            have hgB : w.heap.size + 1 ≤ w2.heap.size := by omega
            have HL_7 := Lib.hid (Own.lit (k := 1) (c := intC) (B := w.heap.size + 1) w2 3 #[.int .i64 i] 1 [(i : Int)] (by first | exact Nat.le_refl _ | omega) rfl (by omega) rfl); have HQ_7 := Lib.hid (HL_7.out.reads rfl).1; have HV_7 := Lib.hid (Own.alloc (HV2.out) (.cells #[.int .i64 i] 3)); have HK_7 := Lib.hid (Own.blk (HV2.out)); go_wp2_with (first | (at_builtin; refine wpList_app_g (k := 1) (c := intC) _ (by rfl) _ _ _ rfl 3 (.int .i64 0) 8 Try.underlying25 (by kernel_rfl) rfl (by decide) (by decide) intC_one _ _ _ rfl HV_7.out _ _ _ _ rfl HQ_7.out ?hm ?hlen ?hB ?_; (case hm => (first | rfl | (simp; done) | omega)); (case hlen => (simp only [List.length_cons, List.length_nil]; omega)); (case hB => ((try simp only [World.size_alloc, World.size_drew]); omega)); intro v_7 w_7 hown_7 hg_7 hat_7; have HW_7 : Hid (Below (w.heap.size + 1) (w2) w_7) := (Below.alloc (Below.refl _ _) (by first | exact Nat.le_refl _ | omega) _).grown hg_7 (by (try simp only [World.size_alloc]); omega) (fun q hq => (HK_7.out q hq).1); have HG_7 := Lib.hid hg_7; have HAT_7 := Lib.hid hat_7; have HO_7 := Lib.hid hown_7; obtain ⟨A_7, c_7, hv_7⟩ := hown_7.slice; simp only [List.length_append, List.length_cons, List.length_nil, Nat.zero_add] at hv_7; subst hv_7; have hz_7 := HG_7.out.size; (try simp only [World.size_alloc] at hz_7); clear hown_7 hg_7 hat_7 HL_7 HQ_7 HV_7))
            have HK7 := Lib.hid ((HK2.out.alloc (.cells #[.int .i64 (i : Int)] 3)).grown HG_7.out (fun e => by have := (HV2.out.blk _ e.symm).1; omega))
            have HB7 : Hid (Below w.heap.size w w_7) := HB2.out.trans (HW_7.out.mono (by omega))
            exact ⟨⟨i + 1, by go_num, by omega, HG2, by unfold Hid; rw [HID.out]; exact HO_7.out, HK7, HB7⟩, by simp [intOf]; omega⟩
          · have HID := Lib.hid (idxD_f (D := D) (S := S) (k := i) (by rw [HD.out]; exact hs))
            go_wp2_with fail
            exact ⟨⟨i + 1, by go_num, by omega, HG2, by unfold Hid; rw [HID.out]; exact HV2.out, HK2, HB2⟩, by simp [intOf]; omega⟩
      · obtain rfl : i = zss.length := by omega
        have HYES := Lib.hid (ztO_t (D := D) (n := zss.length) (S := S) ⟨by omega, HG.out⟩)
        go_wp2_with fail
        go_ret
        exact ⟨_, rfl, by rw [HYES.out]; exact (HV.out.monoT (by omega)).res, HB.out⟩
end Go.Proofs.Ytdfgdeccejcpfaa
