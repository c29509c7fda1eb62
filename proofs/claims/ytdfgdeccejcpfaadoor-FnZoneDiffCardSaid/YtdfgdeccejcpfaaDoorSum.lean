/- The sums of islands: sumsOf. -/
import Derived.Test.YtdfgdeccejcpfaaDoorUof
import Derived.Test.YtdfgdeccejcpfaaDoorZoA
namespace Go.Proofs.YtdfgdeccejcpfaaDoor
open Go.RowKit Go.Deep
set_option linter.unusedSimpArgs false
set_option linter.unusedVariables false
/-- What the islands with the root j want and get, of the first i buses. -/
def vS (R : Nat → Nat) (bs : List R2) (i j : Nat) : Int := if j < 8 then sumN (fun b => if R b = j then feedAt bs b else 0) i else sumN (fun b => if R b = j - 8 then loadAt bs b else 0) i
theorem vS_zero (R : Nat → Nat) (bs : List R2) (j : Nat) : vS R bs 0 j = 0 := by unfold vS; split <;> rfl
theorem vS_succ (R : Nat → Nat) (bs : List R2) (i j : Nat) (h8 : R i < 8) : vS R bs (i + 1) j = if j = R i then vS R bs i j + feedAt bs i else if j = 8 + R i then vS R bs i j + loadAt bs i else vS R bs i j := by
  unfold vS
  by_cases hj : j < 8
  · rw [if_pos hj, if_pos hj]
    show sumN _ i + (if R i = j then feedAt bs i else 0) = _
    by_cases e : j = R i
    · rw [if_pos e, if_pos e.symm]
    · have e2 : ¬ j = 8 + R i := by omega
      rw [if_neg e, if_neg (fun q => e q.symm), if_neg e2]; omega
  · rw [if_neg hj, if_neg hj]
    show sumN _ i + (if R i = j - 8 then loadAt bs i else 0) = _
    have e0 : ¬ j = R i := by omega
    rw [if_neg e0]
    by_cases e : j = 8 + R i
    · rw [if_pos e, if_pos (show R i = j - 8 by omega)]
    · rw [if_neg e, if_neg (show ¬ R i = j - 8 by omega)]; omega
theorem vS_bd {B : Int} {ls : List R3} {on : List Bool} {bs : List R2} (hf : FedP B ls on bs) (R : Nat → Nat) (i j : Nat) : 0 ≤ vS R bs i j ∧ vS R bs i j ≤ 999 * i := by
  unfold vS
  split
  · exact ⟨sumN_nonneg (fun b _ => by have := hf.feedb b; split <;> omega), sumN_le (fun b _ => by have := hf.feedb b; split <;> omega)⟩
  · exact ⟨sumN_nonneg (fun b _ => by have := hf.load b; split <;> omega), sumN_le (fun b _ => by have := hf.load b; split <;> omega)⟩
abbrev sV16 (F : Nat → Int) (j : Nat) : Value := .int .i64 (F j)
def agg16 (F : Nat → Int) : Array Value := #[sV16 F 0, sV16 F 1, sV16 F 2, sV16 F 3, sV16 F 4, sV16 F 5, sV16 F 6, sV16 F 7, sV16 F 8, sV16 F 9, sV16 F 10, sV16 F 11, sV16 F 12, sV16 F 13, sV16 F 14, sV16 F 15]
theorem agg16_at (F : Nat → Int) {i : Nat} (h : i < 16) : (agg16 F)[i]? = some (sV16 F i) := by
  have : i = 0 ∨ i = 1 ∨ i = 2 ∨ i = 3 ∨ i = 4 ∨ i = 5 ∨ i = 6 ∨ i = 7 ∨ i = 8 ∨ i = 9 ∨ i = 10 ∨ i = 11 ∨ i = 12 ∨ i = 13 ∨ i = 14 ∨ i = 15 := by omega
  rcases this with rfl | rfl | rfl | rfl | rfl | rfl | rfl | rfl | rfl | rfl | rfl | rfl | rfl | rfl | rfl | rfl <;> rfl
theorem agg16_congr {F G : Nat → Int} (h : ∀ i, i < 16 → F i = G i) : agg16 F = agg16 G := by
  unfold agg16 sV16
  simp only [h 0 (by omega), h 1 (by omega), h 2 (by omega), h 3 (by omega), h 4 (by omega), h 5 (by omega), h 6 (by omega), h 7 (by omega), h 8 (by omega), h 9 (by omega), h 10 (by omega), h 11 (by omega), h 12 (by omega), h 13 (by omega), h 14 (by omega), h 15 (by omega)]
theorem agg16_set (F : Nat → Int) {i : Nat} (h : i < 16) (x : Int) : (agg16 F).setIfInBounds i (.int .i64 x) = agg16 (fun j => if j = i then x else F j) := by
  have : i = 0 ∨ i = 1 ∨ i = 2 ∨ i = 3 ∨ i = 4 ∨ i = 5 ∨ i = 6 ∨ i = 7 ∨ i = 8 ∨ i = 9 ∨ i = 10 ∨ i = 11 ∨ i = 12 ∨ i = 13 ∨ i = 14 ∨ i = 15 := by omega
  rcases this with rfl | rfl | rfl | rfl | rfl | rfl | rfl | rfl | rfl | rfl | rfl | rfl | rfl | rfl | rfl | rfl <;> rfl

set_option maxRecDepth 100000 in
set_option maxHeartbeats 8000000 in
theorem sumsOf_any (n : Nat) (A A1 A2 : Option Addr) (c c1 c2 : Nat) (ls : List R3) (on : List Bool) (bs : List R2) (w : World) (hf : FedP n ls on bs) (hcy : ¬ cycP ls on) (hR : Reads 3 r3C w w.heap.size A ls) (hR1 : Reads 1 boolC w w.heap.size A1 on) (hR2 : Reads 2 r2C w w.heap.size A2 bs) :
    Calls Tryd.prog 58 #[.agg #[.int .i64 (n : Int), .slice A ls.length c], .slice A1 on.length c1, .slice A2 bs.length c2] w fun e w' => e = .returned (.agg (agg16 (vS (rOf ls on ls.length) bs n))) ∧ Below w.heap.size w w' := by
  obtain ⟨hb8, hb1, hm10, hle, hBn⟩ := hf.lens
  have hn8 : n ≤ 8 := by omega
  have HF := Lib.hid hf
  have HRD : Hid (∀ W, Below w.heap.size w W → Reads 3 r3C W W.heap.size A ls ∧ Reads 1 boolC W W.heap.size A1 on ∧ Reads 2 r2C W W.heap.size A2 bs) := fun W h => ⟨(hR.below h (Nat.le_refl _)).more h.size, (hR1.below h (Nat.le_refl _)).more h.size, (hR2.below h (Nat.le_refl _)).more h.size⟩
  clear hR hR1 hR2
  have HUC : Hid (∀ W, Below w.heap.size w W → Calls Tryd.prog 57 #[.agg #[.int .i64 (n : Int), .slice A ls.length c], .slice A1 on.length c1] W fun e w' => ∃ u, e = .returned (.slice (some ⟨W.heap.size + 1, 0, none⟩) n n) ∧ CycS ls on n ls.length (rOf ls on ls.length) u ∧ w'.rowIs (W.heap.size + 1) 3 n (uV u) ∧ Below W.heap.size W w') := fun W h => unionOf_any n A A1 c c1 ls on W HF.out.1.1 hle hcy (HRD.out W h).1 (HRD.out W h).2.1
  have hbn : bs.length = n := by omega
  have HBN := Lib.hid hbn
  rw [hbn]
  clear hbn hcy hf hBn hb1 hb8 hle hm10
  obtain ⟨R, hRR⟩ : ∃ R, rOf ls on ls.length = R := ⟨_, rfl⟩
  rw [hRR] at HUC ⊢
  clear hRR
  have HZ : Hid (agg16 (fun _ => 0) = #[.int .i64 0, .int .i64 0, .int .i64 0, .int .i64 0, .int .i64 0, .int .i64 0, .int .i64 0, .int .i64 0, .int .i64 0, .int .i64 0, .int .i64 0, .int .i64 0, .int .i64 0, .int .i64 0, .int .i64 0, .int .i64 0]) := rfl
  go_enter Tryd.func58, Tryd.ntmps58
  go_wp2_with fail
  rw [← HZ.out]
  have HB0 : Hid (Below w.heap.size w (((w.alloc (.cells #[.int .i64 (n : Int), .slice A ls.length c] 25)).alloc (.cells (agg16 (fun _ => 0)) 80)).alloc (.cells (agg16 (fun _ => 0)) 80))) := by unfold Hid; (repeat' (first | (with_reducible exact Below.refl _ _) | (with_reducible refine Below.alloc ?_ ?_ _) | (with_reducible refine Below.setCell ?_ ?_ _) | (with_reducible refine Below.drew ?_) | (refine Below.trans ?_ (Below.mono (by with_reducible assumption) ?_)) | go_size))
  have HK6 : Hid (Bk (((w.alloc (.cells #[.int .i64 (n : Int), .slice A ls.length c] 25)).alloc (.cells (agg16 (fun _ => 0)) 80)).alloc (.cells (agg16 (fun _ => 0)) 80)) (w.heap.size + 1) 80 (agg16 (fun _ => 0))) := (Bk.new_at _ _ _ (by simp)).alloc _
  have HK7 : Hid (Bk (((w.alloc (.cells #[.int .i64 (n : Int), .slice A ls.length c] 25)).alloc (.cells (agg16 (fun _ => 0)) 80)).alloc (.cells (agg16 (fun _ => 0)) 80)) (w.heap.size + 1 + 1) 80 (agg16 (fun _ => 0))) := Bk.new_at _ _ _ (by simp)
  have hw3 : (((w.alloc (.cells #[.int .i64 (n : Int), .slice A ls.length c] 25)).alloc (.cells (agg16 (fun _ => 0)) 80)).alloc (.cells (agg16 (fun _ => 0)) 80)).heap.size = w.heap.size + 1 + 1 + 1 := by simp
  generalize ((w.alloc (.cells #[.int .i64 (n : Int), .slice A ls.length c] 25)).alloc (.cells (agg16 (fun _ => 0)) 80)).alloc (.cells (agg16 (fun _ => 0)) 80) = w3 at HB0 HK6 HK7 hw3 ⊢
  refine (HUC.out w3 HB0.out).mono ?_
  rintro e w4 ⟨u0, rfl, hcs, hrow, hb4⟩
  have HB4 : Hid (Below w.heap.size w w4) := HB0.out.trans (hb4.mono HB0.out.size)
  have HK64 := Lib.hid (HK6.out.keep hb4); have HK74 := Lib.hid (HK7.out.keep hb4)
  have HP0 := Lib.hid hcs.ptrs; have HRW0 := Lib.hid hrow
  have hRb : ∀ b, b < n → R b < n := hcs.roots.lt
  have HRB := Lib.hid hRb
  obtain ⟨gu, hgu⟩ : ∃ gu, w3.heap.size + 1 = gu := ⟨_, rfl⟩
  rw [hgu] at HRW0 ⊢
  have hgu2 : w.heap.size + 1 + 1 + 1 + 1 = gu := by omega
  have HGU := Lib.hid hgu2
  clear hcs hrow hb4 hRb hgu hgu2 hw3 HK6 HK7 HB0
  generalize hg6 : w.heap.size + 1 = g6 at HK64 HK74 HGU ⊢
  generalize hg7 : g6 + 1 = g7 at HK74 HGU ⊢
  have h67 : g6 < g7 := by omega
  have h7u : g7 < gu := by have := HGU.out; omega
  have hw6 : w.heap.size < g6 := by omega
  clear hg6 hg7
  go_wp2_with fail
  go_loopw [17] (fun t wr => ∃ (i : Nat) (u : Nat → Nat), t = .int .i64 i ∧ i ≤ n ∧ Hid (Ptrs n R u) ∧ Hid (wr.rowIs gu 3 n (uV u)) ∧ Hid (Bk wr g6 80 (agg16 (fun _ => 0))) ∧ Hid (Bk wr g7 80 (agg16 (vS R bs i))) ∧ Hid (Below w.heap.size w wr)) (fun t _ => n - (intOf t).toNat)
  case atStart => exact ⟨0, u0, rfl, Nat.zero_le _, HP0, HRW0, HK64, by unfold Hid; rw [agg16_congr (F := vS R bs 0) (G := fun _ => 0) (fun i _ => vS_zero R bs i)]; exact HK74.out, HB4⟩
  case round =>
    obtain ⟨i, u, rfl, hi, HP, HRW, HK6, HK7, HB⟩ := hrel
    clear HP0 HRW0 HK64 HK74 HB4
    by_cases hlt : i < n
    · have hx : i < bs.length := by rw [HBN.out]; exact hlt
      have hi1 : (i : Int) < (n : Int) := by omega
      have hbnI : (i : Int) < (bs.length : Int) := by omega
      obtain ⟨b, off, hA2, hb, hc0, hc1⟩ := (HRD.out _ HB.out).2.2.at2 hx
      have hfa : feedAt bs i = bs[i].a := by unfold feedAt; rw [getD_lt hx]
      have hla : loadAt bs i = bs[i].b := by unfold loadAt; rw [getD_lt hx]
      rw [← hfa] at hc0
      rw [← hla] at hc1
      have hvs := vS_succ R bs i
      have hb0 := vS_bd HF.out R i (R i)
      have hb1 := vS_bd HF.out R i (8 + R i)
      have hfb := HF.out.feedb i
      have hlb := HF.out.load i
      have hrn := HRB.out i hlt
      generalize feedAt bs i = fd at hc0 hvs hfb
      generalize loadAt bs i = ld at hc1 hvs hlb
      subst hA2
      obtain ⟨ρ, hρ⟩ : ∃ ρ, R i = ρ := ⟨_, rfl⟩
      rw [hρ] at hvs hb0 hb1 hrn
      have HVS := Lib.hid (fun j => hvs j (by omega))
      have HRO := Lib.hid hρ
      clear hfa hla hvs hρ
      have HBx : Hid (Below w.heap.size w (wr.alloc (.cells #[.int .i64 fd, .int .i64 ld] 68))) := HB.out.alloc HB.out.size _
      have HKx : Hid (Bk (wr.alloc (.cells #[.int .i64 fd, .int .i64 ld] 68)) wr.heap.size 68 #[.int .i64 fd, .int .i64 ld]) := Bk.new _ _ _
      have hzu := HRW.out.lt
      go_wp2_with fail
      refine (find_any gu n n R u i _ HP.out hlt hn8 (rowIs_alloc1 HRW.out _)).mono ?_
      rintro e w2 ⟨rfl, hm2, u2, hp2, hr2⟩
      rw [HRO.out]
      have HK62 := Lib.hid ((HK6.out.alloc (.cells #[.int .i64 fd, .int .i64 ld] 68)).of_block (hm2.block _ (.inl (by omega))))
      have HK72 := Lib.hid ((HK7.out.alloc (.cells #[.int .i64 fd, .int .i64 ld] 68)).of_block (hm2.block _ (.inl (by omega))))
      have HKx2 := Lib.hid (HKx.out.of_block (hm2.block _ (.inr (by omega))))
      have HB2 : Hid (Below w.heap.size w w2) := HBx.out.trans (hm2.below (by omega))
      have HP2 := Lib.hid hp2; have HR2 := Lib.hid hr2
      clear hm2 hp2 hr2 HBx HKx HK6 HK7 HRW HP
      obtain ⟨gx, hgx⟩ : ∃ gx, wr.heap.size = gx := ⟨_, rfl⟩
      rw [hgx] at HKx2 ⊢
      have hgx7 : g7 < gx := by omega
      have hgxu : gu < gx := by omega
      clear hgx hc0 hc1
      have c0 : w2.cell? ⟨gx, 0, none⟩ = some (.int .i64 fd) := HKx2.out.cell 0
      have c1 : w2.cell? ⟨gx, 1, none⟩ = some (.int .i64 ld) := HKx2.out.cell 1
      have zx := HKx2.out.lt
      have z7 := HK72.out.lt
      have f7 := HK72.out.frozen
      have d0 : w2.cell? ⟨g7, ρ, none⟩ = some (.int .i64 (vS R bs i ρ)) := by rw [HK72.out.cell, agg16_at _ (by omega)]
      have d1 : w2.cell? ⟨g7, 8 + ρ, none⟩ = some (.int .i64 (vS R bs i (8 + ρ))) := by rw [HK72.out.cell, agg16_at _ (by omega)]
      obtain ⟨x0, hx0⟩ : ∃ x, vS R bs i ρ = x := ⟨_, rfl⟩
      obtain ⟨x1, hx1⟩ : ∃ x, vS R bs i (8 + ρ) = x := ⟨_, rfl⟩
      rw [hx0] at d0 hb0
      rw [hx1] at d1 hb1
      have HX := Lib.hid (And.intro hx0 hx1)
      clear hx0 hx1
      have hwa : IntKind.i64.wrap (x0 + fd) = x0 + fd := IntWalk.i64_in _ (by omega)
      have hwb : IntKind.i64.wrap (x1 + ld) = x1 + ld := IntWalk.i64_in _ (by omega)
      have hr8 : (ρ : Int) < 8 := by omega
      have hr0 : (0 : Int) ≤ (ρ : Int) := by omega
      have HKa := Lib.hid (HK72.out.set ρ (.int .i64 (x0 + fd)))
      have HK6a := Lib.hid (HK62.out.far (p := ⟨g7, ρ, none⟩) (by simp; omega) (.int .i64 (x0 + fd)))
      have HKxa := Lib.hid (HKx2.out.far (p := ⟨g7, ρ, none⟩) (by simp; omega) (.int .i64 (x0 + fd)))
      have HBa : Hid (Below w.heap.size w (w2.setCell ⟨g7, ρ, none⟩ (.int .i64 (x0 + fd)))) := HB2.out.setCell (by simp; omega) _
      have HRa : Hid ((w2.setCell ⟨g7, ρ, none⟩ (.int .i64 (x0 + fd))).rowIs gu 3 n (uV u2)) := HR2.out.of_block (Below.heap_setCell w2 ⟨g7, ρ, none⟩ _ gu (by simp; omega))
      go_wp2_with fail
      go_region
      clear c0 c1 d0 d1 zx z7 f7
      have HKb : Hid (Bk (w2.setCell ⟨g7, ρ, none⟩ (.int .i64 (x0 + fd))).drew g7 80 ((agg16 (vS R bs i)).setIfInBounds ρ (.int .i64 (x0 + fd)))) := HKa.out
      have HK6b : Hid (Bk (w2.setCell ⟨g7, ρ, none⟩ (.int .i64 (x0 + fd))).drew g6 80 (agg16 (fun _ => 0))) := HK6a.out
      have HKxb : Hid (Bk (w2.setCell ⟨g7, ρ, none⟩ (.int .i64 (x0 + fd))).drew gx 68 #[.int .i64 fd, .int .i64 ld]) := HKxa.out
      have HBb : Hid (Below w.heap.size w (w2.setCell ⟨g7, ρ, none⟩ (.int .i64 (x0 + fd))).drew) := HBa.out.drew
      have HRb2 : Hid ((w2.setCell ⟨g7, ρ, none⟩ (.int .i64 (x0 + fd))).drew.rowIs gu 3 n (uV u2)) := HRa.out.of_block rfl
      generalize (w2.setCell ⟨g7, ρ, none⟩ (.int .i64 (x0 + fd))).drew = w5 at HKb HK6b HKxb HBb HRb2 ⊢
      clear HKa HK6a HKxa HBa HRa HK62 HK72 HKx2 HB2 HR2
      have c0 : w5.cell? ⟨gx, 0, none⟩ = some (.int .i64 fd) := HKxb.out.cell 0
      have c1 : w5.cell? ⟨gx, 1, none⟩ = some (.int .i64 ld) := HKxb.out.cell 1
      have zx := HKxb.out.lt
      have z7 := HKb.out.lt
      have f7 := HKb.out.frozen
      have d1 : w5.cell? ⟨g7, 8 + ρ, none⟩ = some (.int .i64 x1) := by
        rw [HKb.out.cell, agg16_set _ (by omega), agg16_at _ (by omega)]
        show some (Value.int .i64 (if 8 + ρ = ρ then x0 + fd else vS R bs i (8 + ρ))) = _
        rw [if_neg (by omega), HX.out.2]
      have HKc := Lib.hid (HKb.out.set (8 + ρ) (.int .i64 (x1 + ld)))
      have HK6c := Lib.hid (HK6b.out.far (p := ⟨g7, 8 + ρ, none⟩) (by simp; omega) (.int .i64 (x1 + ld)))
      have HBc : Hid (Below w.heap.size w (w5.setCell ⟨g7, 8 + ρ, none⟩ (.int .i64 (x1 + ld)))) := HBb.out.setCell (by simp; omega) _
      have HRc : Hid ((w5.setCell ⟨g7, 8 + ρ, none⟩ (.int .i64 (x1 + ld))).rowIs gu 3 n (uV u2)) := HRb2.out.of_block (Below.heap_setCell w5 ⟨g7, 8 + ρ, none⟩ _ gu (by simp; omega))
      have HNEW : Hid (((agg16 (vS R bs i)).setIfInBounds ρ (.int .i64 (x0 + fd))).setIfInBounds (8 + ρ) (.int .i64 (x1 + ld)) = agg16 (vS R bs (i + 1))) := by
        unfold Hid
        rw [agg16_set _ (by omega), agg16_set _ (by omega)]
        refine agg16_congr fun j _ => ?_
        rw [HVS.out j]
        by_cases e1 : j = ρ
        · rw [if_neg (show ¬ j = 8 + ρ by omega), if_pos e1, if_pos e1, e1, HX.out.1]
        · by_cases e2 : j = 8 + ρ
          · rw [if_pos e2, if_neg e1, if_pos e2, e2, HX.out.2]
          · rw [if_neg e2, if_neg e1, if_neg e1, if_neg e2]
      go_wp2_with fail
      go_region
      go_wp2_with fail
      exact ⟨⟨i + 1, u2, by go_num, by omega, HP2, HRc.out.of_block rfl, HK6c, by unfold Hid; rw [← HNEW.out]; exact HKc.out, HBc.out.drew⟩, by simp [intOf]; omega⟩
    · obtain rfl : i = n := by omega
      have HK7b : Hid (Bk wr g7 80 (agg16 (vS R bs i))) := HK7
      obtain ⟨F, hF⟩ : ∃ F, vS R bs i = F := ⟨_, rfl⟩
      rw [hF] at HK7b
      have HFF := Lib.hid hF
      clear HK7 hF
      have e7 : ∀ j, j < 16 → wr.cell? ⟨g7, j, none⟩ = some (sV16 F j) := fun j hj => by rw [HK7b.out.cell, agg16_at F hj]
      have f0 := e7 0 (by omega); have f1 := e7 1 (by omega); have f2 := e7 2 (by omega); have f3 := e7 3 (by omega)
      have f4 := e7 4 (by omega); have f5 := e7 5 (by omega); have f6 := e7 6 (by omega); have f8 := e7 7 (by omega)
      have h0 := e7 8 (by omega); have h1 := e7 9 (by omega); have h2 := e7 10 (by omega); have h3 := e7 11 (by omega)
      have h4 := e7 12 (by omega); have h5 := e7 13 (by omega); have h6 := e7 14 (by omega); have h8 := e7 15 (by omega)
      have z6 := HK6.out.lt
      have k6 := HK6.out.frozen
      have hc6 : ∀ j, j < 16 → wr.cell? ⟨g6, j, none⟩ = some (.int .i64 0) := fun j hj => by rw [HK6.out.cell, agg16_at _ hj]
      have p0 := hc6 0 (by omega); have p1 := hc6 1 (by omega); have p2 := hc6 2 (by omega); have p3 := hc6 3 (by omega)
      have p4 := hc6 4 (by omega); have p5 := hc6 5 (by omega); have p6 := hc6 6 (by omega); have p7 := hc6 7 (by omega)
      have p8 := hc6 8 (by omega); have p9 := hc6 9 (by omega); have pa := hc6 10 (by omega); have pb := hc6 11 (by omega)
      have pc := hc6 12 (by omega); have pd := hc6 13 (by omega); have pe := hc6 14 (by omega); have pf := hc6 15 (by omega)
      clear e7 hc6
      unfold sV16 at f0 f1 f2 f3 f4 f5 f6 f8 h0 h1 h2 h3 h4 h5 h6 h8
      go_wp2_with fail
      refine bodyPost_ret (v := .agg (agg16 F)) (by simp [results, Tryd.results58, go_sem, k6, z6, p0, p1, p2, p3, p4, p5, p6, p7, p8, p9, pa, pb, pc, pd, pe, pf]; try rfl) rfl ?_
      refine ⟨by rw [HFF.out], ?_⟩
      repeat (refine Below.setCell ?_ (Nat.le_of_lt hw6) _)
      exact HB.out
end Go.Proofs.YtdfgdeccejcpfaaDoor
