/- impl.AliveBuses. -/
import Derived.Test.YtdfgdeccejcpfaaDoorSum
import Derived.Test.YtdfgdeccejcpfaaDoorAppG
import Derived.Test.YtdfgdeccejcpfaaDoorOwn
import Derived.Deep.RegionHeld3
import Derived.Deep.DeepCutAuto
namespace Go.Proofs.YtdfgdeccejcpfaaDoor
open Go.RowKit Go.Deep
set_option linter.unusedSimpArgs false
set_option linter.unusedVariables false
theorem sumN_ge {f : Nat → Int} {n : Nat} (h : ∀ i, i < n → 0 ≤ f i) {k : Nat} (hk : k < n) : f k ≤ sumN f n := by
  induction n with
  | zero => omega
  | succ n ih =>
    show f k ≤ sumN f n + f n
    have hn := h n (by omega)
    by_cases e : k = n
    · subst e; have := sumN_nonneg (fun i hi => h i (Nat.lt_succ_of_lt hi)); omega
    · have := ih (fun i hi => h i (by omega)) (by omega); omega
theorem vS_alive {n : Nat} {ls : List R3} {on : List Bool} {bs : List R2} {u : Nat → Nat} (hf : FedP n ls on bs) (hc : CycS ls on n ls.length (rOf ls on ls.length) u) {k : Nat} (hk : k < n) : 0 < vS (rOf ls on ls.length) bs n (rOf ls on ls.length k) ↔ aliveP ls on bs k := by
  obtain ⟨hb8, hb1, hm10, hle, hBn⟩ := hf.lens
  have hr8 := hc.roots.lt k hk
  unfold vS
  rw [if_pos (by omega)]
  have hnn : ∀ b, b < n → 0 ≤ (if rOf ls on ls.length b = rOf ls on ls.length k then feedAt bs b else 0) := fun b _ => by have := hf.feedb b; split <;> omega
  constructor
  · intro h
    rcases Classical.em (∃ b, b < n ∧ rOf ls on ls.length b = rOf ls on ls.length k ∧ 0 < feedAt bs b) with ⟨b, h1, h2, h3⟩ | hno
    · exact ⟨b, ⟨by omega, h3⟩, (hc.cn hle h1 hk).1 h2⟩
    · have hz : sumN (fun b => if rOf ls on ls.length b = rOf ls on ls.length k then feedAt bs b else 0) n = 0 := sumN_none (fun b hb => by
        have hfb := hf.feedb b
        split
        · rename_i e
          have : ¬ 0 < feedAt bs b := fun q => hno ⟨b, hb, e, q⟩
          omega
        · rfl)
      omega
  · rintro ⟨f, ⟨hf1, hf2⟩, hcn⟩
    have hfn : f < n := by omega
    have e := (hc.cn hle hfn hk).2 hcn
    have hle2 : (fun b => if rOf ls on ls.length b = rOf ls on ls.length k then feedAt bs b else 0) f ≤ sumN (fun b => if rOf ls on ls.length b = rOf ls on ls.length k then feedAt bs b else 0) n := sumN_ge hnn hfn
    simp only at hle2
    rw [if_pos e] at hle2
    omega
abbrev Z16 : Obj := .cells #[.int .i64 0, .int .i64 0, .int .i64 0, .int .i64 0, .int .i64 0, .int .i64 0, .int .i64 0, .int .i64 0, .int .i64 0, .int .i64 0, .int .i64 0, .int .i64 0, .int .i64 0, .int .i64 0, .int .i64 0, .int .i64 0] 80
abbrev st16 (w : World) (g : Nat) (F : Nat → Int) : World := ((((((((((((((((w.setCell ⟨g, 0, none⟩ (sV16 F 0)).setCell ⟨g, 1, none⟩ (sV16 F 1)).setCell ⟨g, 2, none⟩ (sV16 F 2)).setCell ⟨g, 3, none⟩ (sV16 F 3)).setCell ⟨g, 4, none⟩ (sV16 F 4)).setCell ⟨g, 5, none⟩ (sV16 F 5)).setCell ⟨g, 6, none⟩ (sV16 F 6)).setCell ⟨g, 7, none⟩ (sV16 F 7)).setCell ⟨g, 8, none⟩ (sV16 F 8)).setCell ⟨g, 9, none⟩ (sV16 F 9)).setCell ⟨g, 10, none⟩ (sV16 F 10)).setCell ⟨g, 11, none⟩ (sV16 F 11)).setCell ⟨g, 12, none⟩ (sV16 F 12)).setCell ⟨g, 13, none⟩ (sV16 F 13)).setCell ⟨g, 14, none⟩ (sV16 F 14)).setCell ⟨g, 15, none⟩ (sV16 F 15))
theorem bk_st16 {w : World} {g : Nat} {G F : Nat → Int} (h : Bk w g 80 (agg16 G)) : Bk (st16 w g F) g 80 (agg16 F) := by
  have := (((((((((((((((h.set 0 (sV16 F 0)).set 1 (sV16 F 1)).set 2 (sV16 F 2)).set 3 (sV16 F 3)).set 4 (sV16 F 4)).set 5 (sV16 F 5)).set 6 (sV16 F 6)).set 7 (sV16 F 7)).set 8 (sV16 F 8)).set 9 (sV16 F 9)).set 10 (sV16 F 10)).set 11 (sV16 F 11)).set 12 (sV16 F 12)).set 13 (sV16 F 13)).set 14 (sV16 F 14)).set 15 (sV16 F 15)
  have e : ((((((((((((((((agg16 G).setIfInBounds 0 (sV16 F 0)).setIfInBounds 1 (sV16 F 1)).setIfInBounds 2 (sV16 F 2)).setIfInBounds 3 (sV16 F 3)).setIfInBounds 4 (sV16 F 4)).setIfInBounds 5 (sV16 F 5)).setIfInBounds 6 (sV16 F 6)).setIfInBounds 7 (sV16 F 7)).setIfInBounds 8 (sV16 F 8)).setIfInBounds 9 (sV16 F 9)).setIfInBounds 10 (sV16 F 10)).setIfInBounds 11 (sV16 F 11)).setIfInBounds 12 (sV16 F 12)).setIfInBounds 13 (sV16 F 13)).setIfInBounds 14 (sV16 F 14)).setIfInBounds 15 (sV16 F 15) = agg16 F := by
    unfold sV16
    rw [agg16_set _ (by omega), agg16_set _ (by omega), agg16_set _ (by omega), agg16_set _ (by omega), agg16_set _ (by omega), agg16_set _ (by omega), agg16_set _ (by omega), agg16_set _ (by omega), agg16_set _ (by omega), agg16_set _ (by omega), agg16_set _ (by omega), agg16_set _ (by omega), agg16_set _ (by omega), agg16_set _ (by omega), agg16_set _ (by omega), agg16_set _ (by omega)]
    refine agg16_congr fun i hi => ?_
    have : i = 0 ∨ i = 1 ∨ i = 2 ∨ i = 3 ∨ i = 4 ∨ i = 5 ∨ i = 6 ∨ i = 7 ∨ i = 8 ∨ i = 9 ∨ i = 10 ∨ i = 11 ∨ i = 12 ∨ i = 13 ∨ i = 14 ∨ i = 15 := by omega
    rcases this with rfl | rfl | rfl | rfl | rfl | rfl | rfl | rfl | rfl | rfl | rfl | rfl | rfl | rfl | rfl | rfl <;> rfl
  rw [e] at this
  exact this
theorem row_st16 {w : World} {g gu n : Nat} {T : TypeId} {F : Nat → Int} {f : Nat → Value} (h : w.rowIs gu T n f) (hne : gu ≠ g) : (st16 w g F).rowIs gu T n f := by
  have e : ∀ (w : World) (i : Nat) (v : Value), w.rowIs gu T n f → (w.setCell ⟨g, i, none⟩ v).rowIs gu T n f := fun w i v h => h.of_block (Below.heap_setCell w ⟨g, i, none⟩ v gu hne)
  exact e _ _ _ (e _ _ _ (e _ _ _ (e _ _ _ (e _ _ _ (e _ _ _ (e _ _ _ (e _ _ _ (e _ _ _ (e _ _ _ (e _ _ _ (e _ _ _ (e _ _ _ (e _ _ _ (e _ _ _ (e _ _ _ h)))))))))))))))
theorem below_st16 {w0 w : World} {g : Nat} {F : Nat → Int} (h : Below w0.heap.size w0 w) (hg : w0.heap.size ≤ g) : Below w0.heap.size w0 (st16 w g F) := by
  repeat (refine Below.setCell ?_ hg _)
  exact h

set_option maxRecDepth 100000 in
set_option maxHeartbeats 8000000 in
theorem implAlive_any (n : Nat) (A A1 A2 : Option Addr) (c c1 c2 : Nat) (ls : List R3) (on : List Bool) (bs : List R2) (w : World) (hf : FedP n ls on bs) (hcy : ¬ cycP ls on) (hR : Reads 3 r3C w w.heap.size A ls) (hR1 : Reads 1 boolC w w.heap.size A1 on) (hR2 : Reads 2 r2C w w.heap.size A2 bs) :
    Calls Tryd.prog 29 #[.agg #[.int .i64 (n : Int), .slice A ls.length c], .slice A1 on.length c1, .slice A2 bs.length c2] w (RetS 1 intC 3 w (idxL (fun k => pB (aliveP ls on bs k)) n)) := by
  obtain ⟨hb8, hb1, hm10, hle, hBn⟩ := hf.lens
  have hn8 : n ≤ 8 := by omega
  have HF := Lib.hid hf
  have HRD : Hid (∀ W, Below w.heap.size w W → Reads 3 r3C W W.heap.size A ls ∧ Reads 1 boolC W W.heap.size A1 on ∧ Reads 2 r2C W W.heap.size A2 bs) := fun W h => ⟨(hR.below h (Nat.le_refl _)).more h.size, (hR1.below h (Nat.le_refl _)).more h.size, (hR2.below h (Nat.le_refl _)).more h.size⟩
  clear hR hR1 hR2
  have HUC : Hid (∀ W, Below w.heap.size w W → Calls Tryd.prog 57 #[.agg #[.int .i64 (n : Int), .slice A ls.length c], .slice A1 on.length c1] W fun e w' => ∃ u, e = .returned (.slice (some ⟨W.heap.size + 1, 0, none⟩) n n) ∧ CycS ls on n ls.length (rOf ls on ls.length) u ∧ w'.rowIs (W.heap.size + 1) 3 n (uV u) ∧ Below W.heap.size W w') := fun W h => unionOf_any n A A1 c c1 ls on W hf.1.1 hle hcy (HRD.out W h).1 (HRD.out W h).2.1
  have HSC : Hid (∀ W, Below w.heap.size w W → Calls Tryd.prog 58 #[.agg #[.int .i64 (n : Int), .slice A ls.length c], .slice A1 on.length c1, .slice A2 bs.length c2] W fun e w' => e = .returned (.agg (agg16 (vS (rOf ls on ls.length) bs n))) ∧ Below W.heap.size W w') := fun W h => sumsOf_any n A A1 A2 c c1 c2 ls on bs W hf hcy (HRD.out W h).1 (HRD.out W h).2.1 (HRD.out W h).2.2
  have HFC : Hid (∀ W, Below w.heap.size w W → Calls Tryd.prog 56 #[.agg #[.int .i64 (n : Int), .slice A ls.length c], .slice A1 on.length c1, .slice A2 bs.length c2] W fun e w' => e = .returned (.bool true) ∧ Below W.heap.size W w') := fun W h => by
    have := implFedValid_any n A A1 A2 c c1 c2 ls on bs W (HRD.out W h).1 (HRD.out W h).2.2 (by omega) (by omega) (by omega)
    rw [fedV_t.2 hf] at this; exact this
  have HAL : Hid (∀ u k, CycS ls on n ls.length (rOf ls on ls.length) u → k < n → (0 < vS (rOf ls on ls.length) bs n (rOf ls on ls.length k) ↔ aliveP ls on bs k)) := fun u k hc hk => vS_alive hf hc hk
  have hbn : bs.length = n := by omega
  have HBN := Lib.hid hbn
  clear hcy hf hBn hb1 hb8 hle hm10
  obtain ⟨p, hp⟩ : ∃ p, (fun k => pB (aliveP ls on bs k)) = p := ⟨_, rfl⟩
  rw [hp]
  have HPP : Hid (∀ k, p k = pB (aliveP ls on bs k)) := fun k => by rw [← hp]
  clear hp
  obtain ⟨R, hRR⟩ : ∃ R, rOf ls on ls.length = R := ⟨_, rfl⟩
  rw [hRR] at HUC HSC HAL
  have HRR := Lib.hid hRR; clear hRR
  obtain ⟨F, hFF⟩ : ∃ F, vS R bs n = F := ⟨_, rfl⟩
  rw [hFF] at HSC HAL
  clear hFF
  unfold agg16 sV16 at HSC
  have HB0 : Hid (Below w.heap.size w (w.alloc (.cells #[.int .i64 (n : Int), .slice A ls.length c] 25))) := Below.alloc (Below.refl _ _) (Nat.le_refl _) _
  have HK0 : Hid (Bk (w.alloc (.cells #[.int .i64 (n : Int), .slice A ls.length c] 25)) w.heap.size 25 #[.int .i64 (n : Int), .slice A ls.length c]) := Bk.new _ _ _
  rw [hbn] at HSC HFC ⊢
  clear hbn
  go_enter Tryd.func29, Tryd.ntmps29
  go_wp2_with fail
  refine (HFC.out _ HB0.out).mono ?_
  rintro e w1 ⟨rfl, hb1⟩
  have HB1 : Hid (Below w.heap.size w w1) := HB0.out.trans (hb1.mono HB0.out.size)
  have HK1 := Lib.hid (HK0.out.keep hb1)
  clear hb1 HB0 HK0
  have c0 : w1.cell? ⟨w.heap.size, 0, none⟩ = some (.int .i64 (n : Int)) := HK1.out.cell 0
  have c1' : w1.cell? ⟨w.heap.size, 1, none⟩ = some (.slice A ls.length c) := HK1.out.cell 1
  have z1 := HK1.out.lt
  have HBd : Hid (Below w.heap.size w w1.drew) := HB1.out.drew
  have HBe : Hid (Below w.heap.size w (w1.alloc Z16).drew) := (HB1.out.alloc HB1.out.size _).drew
  go_upto_region 3 with fail
  go_cut [7, 8] (fun t7 t8 wx => ∃ (gu g8 : Nat) (u : Nat → Nat), t7 = .slice (some ⟨gu, 0, none⟩) n n ∧ t8 = .pointer (some ⟨g8, 0, none⟩) ∧ Hid (CycS ls on n ls.length R u) ∧ Hid (wx.rowIs gu 3 n (uV u)) ∧ Hid (Bk wx g8 80 (agg16 F)) ∧ Hid (gu ≠ g8 ∧ w1.heap.size ≤ gu ∧ w1.heap.size ≤ g8) ∧ Hid (Below w.heap.size w wx))
  case first =>
    go_region_held3 (fun w' => w'.cell? ⟨w.heap.size, 0, none⟩ = some (.int .i64 (n : Int)) ∧ w'.cell? ⟨w.heap.size, 1, none⟩ = some (.slice A ls.length c)) (simp [go_sem, World.cell?_alloc_past, *])
      (first | (go_at_call 57; (with_reducible refine (HUC.out _ (by first | (with_reducible exact HBd.out) | (with_reducible exact HBe.out))).mono ?_); rintro e wa ⟨u, rfl, hcs, hrow, hba⟩; have q0 := keepB hba (g := w.heap.size) (by go_size); have zq := keepZ hba (g := w.heap.size) (by go_size); have cN := fun h => keepB hba (g := w1.heap.size) h; have fN := fun h => keepF hba (g := w1.heap.size) h; have zN := fun h => keepZ hba (g := w1.heap.size) h; have HBa : Hid (Below w.heap.size w wa) := (by first | (with_reducible exact Lib.hid (HBd.out.trans (hba.mono HBd.out.size))) | (with_reducible exact Lib.hid (HBe.out.trans (hba.mono HBe.out.size)))); have HCS := Lib.hid hcs; (try simp only [World.size_alloc, World.size_drew] at hrow); have HRW := Lib.hid hrow; have hza := hba.size; (try simp only [World.size_alloc, World.size_drew] at hza); have HBA := Lib.hid hba; clear hcs hrow hba; have HBa2 : Hid (Below w.heap.size w (wa.alloc Z16)) := HBa.out.alloc HBa.out.size _)
             | (go_at_call 58; (with_reducible refine (HSC.out _ (by first | (with_reducible exact HBa.out) | (with_reducible exact HBa2.out))).mono ?_); rintro e wb ⟨rfl, hbb⟩; have r0 := keepB hbb (g := w.heap.size) (by go_size); have rz := keepZ hbb (g := w.heap.size) (by go_size); have HBB := Lib.hid hbb; have cM := fun h => keepB hbb (g := w1.heap.size) h; have fM := fun h => keepF hbb (g := w1.heap.size) h; have zM := fun h => keepZ hbb (g := w1.heap.size) h; have cL := fun h => keepB hbb (g := wa.heap.size) h; have fL := fun h => keepF hbb (g := wa.heap.size) h; have zL := fun h => keepZ hbb (g := wa.heap.size) h))
    · have HBb : Below w.heap.size w wb := HBa.out.trans (HBB.out.mono HBa.out.size)
      have hru := HRW.out.of_block (HBB.out.block _ HRW.out.lt)
      have hl := hru.lt
      go_wp2_with fail
      go_meet
      exact ⟨_, _, u, rfl, rfl, HCS, rowIs_alloc1 hru _, Bk.new _ _ _, ⟨Nat.ne_of_lt hl, by omega, by omega⟩, HBb.alloc HBb.size _⟩
    · have HBb : Below w.heap.size w wb := HBa2.out.trans (HBB.out.mono HBa2.out.size)
      have hra := rowIs_alloc1 HRW.out Z16
      have hru := hra.of_block (HBB.out.block _ hra.lt)
      have hl := HRW.out.lt
      have hk : Bk wb wa.heap.size 80 (agg16 (fun _ => 0)) := Bk.keep (w := wa.alloc Z16) (Bk.new wa _ _) HBB.out
      have hne := Nat.ne_of_lt hl
      go_wp2_with fail
      go_meet
      exact ⟨_, _, u, rfl, rfl, HCS, row_st16 hru hne, bk_st16 hk, ⟨hne, by omega, by omega⟩, below_st16 HBb HBa.out.size⟩
    · have HBb : Below w.heap.size w wb := HBa.out.trans (HBB.out.mono HBa.out.size)
      have hru := HRW.out.of_block (HBB.out.block _ HRW.out.lt)
      have hk1 : Bk wa w1.heap.size 80 (agg16 (fun _ => 0)) := Bk.keep (w := (w1.alloc Z16).drew) (Bk.new w1 _ _) HBA.out
      have hk := hk1.keep HBB.out
      have hne : w1.heap.size + 1 + 1 ≠ w1.heap.size := by omega
      go_wp2_with fail
      go_meet
      exact ⟨_, _, u, rfl, rfl, HCS, row_st16 hru hne, bk_st16 hk, ⟨hne, by omega, by omega⟩, below_st16 HBb HB1.out.size⟩
  case rest =>
    obtain ⟨gu, g8, u0, rfl, rfl, HCS, HRW0, HK80, HNE, HB5⟩ := hcut
    have hz1 : w.heap.size ≤ w1.heap.size := Nat.le_of_lt z1
    clear HB1 HK1 c0 c1' z1 HBd HBe HUC HSC HFC HRD
    have hzu := HRW0.out.lt
    have hz8 := HK80.out.lt
    have hne := HNE.out.1
    have hwc : w.heap.size ≤ wc.heap.size := by have := HNE.out; omega
    have HRB : Hid (∀ k, k < n → R k < n) := HCS.out.roots.lt
    have HP0 : Hid (Ptrs n R u0) := HCS.out.ptrs
    go_wp2_with fail
    go_loopw [9, 25] (fun t9 t25 wr => ∃ (i : Nat) (u : Nat → Nat), t25 = .int .i64 i ∧ i ≤ n ∧ Hid (Own 1 intC 3 wr wc.heap.size t9 (idxL p i)) ∧ Hid (Ptrs n R u) ∧ Hid (wr.rowIs gu 3 n (uV u)) ∧ Hid (Bk wr g8 80 (agg16 F)) ∧ Hid (Below w.heap.size w wr) ∧ Hid (wc.heap.size ≤ wr.heap.size)) (fun _ t25 _ => n - (intOf t25).toNat)
    case atStart => exact ⟨0, u0, rfl, Nat.zero_le _, Own.nil, HP0, HRW0, HK80, HB5, Nat.le_refl _⟩
    case round =>
      obtain ⟨i, u, rfl, hi, HV, HP, HRW, HK8, HB, HSZ⟩ := hrel
      clear HP0 HRW0 HK80 HB5
      have hsz : wc.heap.size ≤ wr.heap.size := HSZ.out
      obtain ⟨vA, vc, hv⟩ := HV.out.slice
      subst hv
      have hil := idxL_len p i
      by_cases hlt : i < n
      · have hi1 : (i : Int) < (n : Int) := by omega
        have hil8 : (idxL p i).length ≤ 8 := by omega
        have hal := HAL.out u0 i HCS.out hlt
        have hrn := HRB.out i hlt
        go_wp2_with fail
        refine (find_any gu n n R u i wr HP.out hlt hn8 HRW.out).mono ?_
        rintro e w2 ⟨rfl, hm2, u2, hp2, hr2⟩
        have HV2 : Hid (Own 1 intC 3 w2 wc.heap.size (.slice vA (idxL p i).length vc) (idxL p i)) := HV.out.keep_at (Nat.le_of_eq hm2.size.symm) hm2.os hm2.tape hm2.output (fun b hb => hm2.block b (.inr (by have := (HV.out.blk b hb).1; omega)))
        have HK82 := Lib.hid (HK8.out.of_block (hm2.block g8 (by rcases Nat.lt_or_ge g8 gu with h | h; exact .inl h; exact .inr (by omega))))
        have HB2 : Hid (Below w.heap.size w w2) := HB.out.trans (hm2.below (by have := HNE.out; have := HB.out.size; omega))
        have HP2 := Lib.hid hp2; have HR2 := Lib.hid hr2
        have hsz2 : wc.heap.size ≤ w2.heap.size := by rw [hm2.size]; exact hsz
        clear hm2 hp2 hr2 HV HK8 HB HP HRW
        obtain ⟨ρ, hρ⟩ : ∃ ρ, R i = ρ := ⟨_, rfl⟩
        rw [hρ] at hal hrn ⊢
        clear hρ
        have d0 : w2.cell? ⟨g8, ρ, none⟩ = some (.int .i64 (F ρ)) := by rw [HK82.out.cell, agg16_at _ (by omega)]
        have hr8 : (ρ : Int) < 8 := by omega
        have hr0 : (0 : Int) ≤ (ρ : Int) := by omega
        obtain ⟨f0, hf0⟩ : ∃ f, F ρ = f := ⟨_, rfl⟩
        rw [hf0] at hal d0
        clear hf0
        by_cases hpos : 0 < f0
        · have HID : Hid (idxL p (i + 1) = idxL p i ++ [(i : Int)]) := by
            unfold Hid
            show idxL p i ++ (if p i = true then [(i : Int)] else []) = _
            rw [if_pos (by rw [HPP.out]; exact pB_t.2 (hal.1 hpos))]
          clear hal
          have HL_7 := Lib.hid (Own.lit (k := 1) (c := intC) (B := wc.heap.size) w2 3 #[.int .i64 i] 1 [(i : Int)] (by first | exact Nat.le_refl _ | omega) rfl (by omega) rfl); have HQ_7 := Lib.hid (HL_7.out.reads rfl).1; have HV_7 := Lib.hid (Own.alloc (HV2.out) (.cells #[.int .i64 i] 3)); have HK_7 := Lib.hid (Own.blk (HV2.out)); go_wp2_with (first | (at_builtin; refine wpList_app_g (k := 1) (c := intC) _ (by rfl) _ _ _ rfl 3 (.int .i64 0) 8 Tryd.underlying28 (by kernel_rfl) rfl (by decide) (by decide) intC_one _ _ _ rfl HV_7.out _ _ _ _ rfl HQ_7.out ?hm ?hlen ?hB ?_; (case hm => (first | rfl | (simp; done) | omega)); (case hlen => (simp only [List.length_cons, List.length_nil]; omega)); (case hB => ((try simp only [World.size_alloc, World.size_drew]); omega)); intro v_7 w_7 hown_7 hg_7 hat_7; have HW_7 : Hid (Below (wc.heap.size) (w2) w_7) := (Below.alloc (Below.refl _ _) (by first | exact Nat.le_refl _ | omega) _).grown hg_7 (by (try simp only [World.size_alloc]); omega) (fun q hq => (HK_7.out q hq).1); have HG_7 := Lib.hid hg_7; have HAT_7 := Lib.hid hat_7; have HO_7 := Lib.hid hown_7; obtain ⟨A_7, c_7, hv_7⟩ := hown_7.slice; simp only [List.length_append, List.length_cons, List.length_nil, Nat.zero_add] at hv_7; subst hv_7; have hz_7 := HG_7.out.size; (try simp only [World.size_alloc] at hz_7); clear hown_7 hg_7 hat_7 HL_7 HQ_7 HV_7))
          have hlt7 : ∀ q, q < wc.heap.size → some q ≠ (Value.slice vA (idxL p i).length vc).ownBlock := fun q hq e => by have := (HV2.out.blk q e.symm).1; omega
          have HR7 := Lib.hid ((rowIs_alloc1 HR2.out (.cells #[.int .i64 (i : Int)] 3)).of_block (HG_7.out.block gu (by simp only [World.size_alloc]; omega) (fun e => hlt7 gu hzu e)))
          have HK7 := Lib.hid ((HK82.out.alloc (.cells #[.int .i64 (i : Int)] 3)).grown HG_7.out (hlt7 g8 hz8))
          have HB7 : Hid (Below w.heap.size w w_7) := HB2.out.trans (HW_7.out.mono (by have := HB2.out.size; have := HNE.out; omega))
          exact ⟨⟨i + 1, u2, by go_num, by omega, by unfold Hid; rw [HID.out]; exact HO_7.out, HP2, HR7, HK7, HB7, by unfold Hid; omega⟩, by simp [intOf]; omega⟩
        · have HID : Hid (idxL p (i + 1) = idxL p i) := by
            unfold Hid
            show idxL p i ++ (if p i = true then [(i : Int)] else []) = _
            rw [if_neg (by rw [HPP.out]; exact fun h => hpos (hal.2 (pB_t.1 h))), List.append_nil]
          clear hal
          go_wp2_with fail
          exact ⟨⟨i + 1, u2, by go_num, by omega, by unfold Hid; rw [HID.out]; exact HV2.out, HP2, HR2, HK82, HB2, hsz2⟩, by simp [intOf]; omega⟩
      · obtain rfl : i = n := by omega
        go_wp2_with fail
        go_ret
        exact ⟨_, rfl, (HV.out.mono (by have := HNE.out; have := HB.out.size; have := HSZ.out; omega)).res, HB.out⟩
end Go.Proofs.YtdfgdeccejcpfaaDoor
