/- The law FnRecRun: its walk. -/
import Derived.Test.YtkibkmhmlkfhfaaDoorDrRun
import Derived.Test.YtkibkmhmlkfhfaaDoorRecT
import Derived.Test.YtkibkmhmlkfhfaaDoorCutS
namespace Go.Proofs.YtkibkmhmlkfhfaaDoor
open Go.RowKit Go.Deep
set_option linter.unusedSimpArgs false
set_option linter.unusedVariables false
theorem runN_bd (s sh wt g : Int) (l : List Bool) : 0 ≤ runN s sh wt g l ∧ runN s sh wt g l ≤ l.length := by
  unfold runN
  split
  · exact recOpen_bd _ _
  · omega
theorem implRecRun_as {s sh wt g : Int} {n : Nat} {xs : List Bool} {R : R4} {M : Int} (hn : xs.length = n) (hl : n ≤ 1048576) (h1 : runOut s sh wt g xs = R) (h2 : runN s sh wt g xs = M) (A : Option Addr) (c : Nat) (w : World) (hR : Reads 1 boolC w w.heap.size A xs) :
    Calls Tryd.prog 20 #[.agg #[.int .i64 s, .int .i64 sh, .int .i64 wt, .int .i64 g], .slice A n c] w fun e w' => e = .returned (.tuple #[.agg #[.int .i64 R.a, .int .i64 R.b, .int .i64 R.c, .int .i64 R.d], .int .i64 M]) ∧ Below w.heap.size w w' := by
  subst h1 h2; exact implRecRun_n s sh wt g A n c xs w hn hR hl
theorem specRecRun_as {s sh wt g : Int} {n : Nat} {xs : List Bool} {R : R4} {M : Int} (hn : xs.length = n) (hl : n ≤ 1048576) (h1 : runOut s sh wt g xs = R) (h2 : runN s sh wt g xs = M) (A : Option Addr) (c : Nat) (w : World) (hR : Reads 1 boolC w w.heap.size A xs) :
    Calls Tryd.prog 21 #[.agg #[.int .i64 s, .int .i64 sh, .int .i64 wt, .int .i64 g], .slice A n c] w fun e w' => e = .returned (.tuple #[.agg #[.int .i64 R.a, .int .i64 R.b, .int .i64 R.c, .int .i64 R.d], .int .i64 M]) ∧ Below w.heap.size w w' := by
  subst h1 h2; exact specRecRun_n s sh wt g A n c xs w hn hR hl

set_option maxRecDepth 100000 in
set_option maxHeartbeats 8000000 in
theorem fnRecRun_any (A : Option Addr) (n c : Nat) (bs : List Int) (w : World) (hn : bs.length = n) (hb : ∀ x ∈ bs, U8 x) (hc : n ≤ c) (hcm : c ≤ maxLen) (hR : Reads 1 byteC w w.heap.size A bs) :
    Calls Tryd.prog 6 #[.slice A n c] w fun e w' => e = .returned (.bool true) ∧ Below w.heap.size w w' := by
  unfold maxLen at hcm
  subst hn
  have HR := Lib.hid hR; clear hR
  have HB := Lib.hid hb; clear hb
  have hnn : ∀ x : Int, (x != x) = false := fun x => by simp
  by_cases hl : ¬ bs.length ≤ 1048576
  · have hl' : (1048576 : Int) < bs.length := by omega
    go_enter Tryd.func6, Tryd.ntmps6
    go_wp2_with fail
    go_ret
    exact ⟨rfl, Below.refl _ _⟩
  have hl : bs.length ≤ 1048576 := by omega
  have hl' : ¬ (1048576 : Int) < bs.length := by omega
  go_enter Tryd.func6, Tryd.ntmps6
  go_wp2_with fail; ((with_reducible refine (drawRecRun_any A c bs w HR.out HB.out hl hc hcm).mono ?_); rintro e w1 ⟨a, b, c', d, v, xs, rfl, hs, hx30, hd, hb_1⟩); have hz_1 := hb_1.size; (try simp only [World.size_alloc, World.size_setCell, World.size_drew] at hz_1)
  have HD := Lib.hid hd
  obtain ⟨A1, cp1, rfl, hcap1, hcap2, _⟩ := hd
  have HRD := Lib.hid HD.out.reads.1
  clear HD
  generalize hnx : xs.length = n at hx30 hcap1
  have HN := Lib.hid hnx; clear hnx
  obtain ⟨R, hRR⟩ : ∃ R, runOut a b c' d xs = R := ⟨_, rfl⟩
  obtain ⟨M, hMM⟩ : ∃ M, runN a b c' d xs = M := ⟨_, rfl⟩
  have hMb := runN_bd a b c' d xs
  rw [hMM, HN.out] at hMb
  obtain ⟨hM0, hM1⟩ := hMb
  have HRM := Lib.hid (And.intro hRR hMM); clear hRR hMM
  go_wp2_with fail; ((with_reducible refine (implRecRun_as HN.out (by omega) HRM.out.1 HRM.out.2 A1 cp1 _ (reads_alloc HRD.out _)).mono ?_); rintro e w2 ⟨rfl, hb_2⟩); have cB0_2 := keepB hb_2 (g := w1.heap.size) (by go_size); have fB0_2 := keepF hb_2 (g := w1.heap.size) (by go_size); have zB0_2 := keepZ hb_2 (g := w1.heap.size) (by go_size); have hz_2 := hb_2.size; (try simp only [World.size_alloc, World.size_setCell, World.size_drew] at hz_2)
  have HRD2 := Lib.hid (((reads_alloc HRD.out (.cells #[.int .i64 a, .int .i64 b, .int .i64 c', .int .i64 d] 24)).below hb_2 (Nat.le_refl _)).more hb_2.size)
  go_wp2_with fail; ((with_reducible refine (specRecRun_as HN.out (by omega) HRM.out.1 HRM.out.2 A1 cp1 _ (reads_alloc HRD2.out _)).mono ?_); rintro e w3 ⟨rfl, hb_3⟩); have cB0_3 := keepB hb_3 (g := w1.heap.size) (by go_size); have fB0_3 := keepF hb_3 (g := w1.heap.size) (by go_size); have zB0_3 := keepZ hb_3 (g := w1.heap.size) (by go_size); have cB1_3 := keepB hb_3 (g := w2.heap.size) (by go_size); have fB1_3 := keepF hb_3 (g := w2.heap.size) (by go_size); have zB1_3 := keepZ hb_3 (g := w2.heap.size) (by go_size); have hz_3 := hb_3.size; (try simp only [World.size_alloc, World.size_setCell, World.size_drew] at hz_3)
  have HRD3 := Lib.hid (((reads_alloc HRD2.out (.cells #[.int .i64 R.a, .int .i64 R.b, .int .i64 R.c, .int .i64 R.d] 24)).below hb_3 (Nat.le_refl _)).more hb_3.size)
  go_wp2_with fail; ((with_reducible refine (specRecValid_any _ _ _ _ _).mono ?_); rintro e w4 ⟨rfl, hb_4⟩); have cB0_4 := keepB hb_4 (g := w1.heap.size) (by go_size); have fB0_4 := keepF hb_4 (g := w1.heap.size) (by go_size); have zB0_4 := keepZ hb_4 (g := w1.heap.size) (by go_size); have cB1_4 := keepB hb_4 (g := w2.heap.size) (by go_size); have fB1_4 := keepF hb_4 (g := w2.heap.size) (by go_size); have zB1_4 := keepZ hb_4 (g := w2.heap.size) (by go_size); have cB2_4 := keepB hb_4 (g := w3.heap.size) (by go_size); have fB2_4 := keepF hb_4 (g := w3.heap.size) (by go_size); have zB2_4 := keepZ hb_4 (g := w3.heap.size) (by go_size); have hz_4 := hb_4.size; (try simp only [World.size_alloc, World.size_setCell, World.size_drew] at hz_4)
  have HRD4 := Lib.hid (((reads_alloc HRD3.out (.cells #[.int .i64 R.a, .int .i64 R.b, .int .i64 R.c, .int .i64 R.d] 24)).below hb_4 (Nat.le_refl _)).more hb_4.size)
  have HB4 : Hid (Below w.heap.size w w4) := by unfold Hid; (repeat' (first | (with_reducible exact Below.refl _ _) | (with_reducible refine Below.alloc ?_ ?_ _) | (with_reducible refine Below.setCell ?_ ?_ _) | (with_reducible refine Below.drew ?_) | (refine Below.trans ?_ (Below.mono (by with_reducible assumption) ?_)) | go_size))
  have Kr : Hid (Bk w4 w1.heap.size 24 #[.int .i64 a, .int .i64 b, .int .i64 c', .int .i64 d]) := ((((Bk.new w1 _ _).keep hb_2).alloc _).keep hb_3 |>.alloc _).keep hb_4
  have Kx : Hid (Bk w4 w2.heap.size 24 #[.int .i64 R.a, .int .i64 R.b, .int .i64 R.c, .int .i64 R.d]) := (((Bk.new w2 _ _).keep hb_3).alloc _).keep hb_4
  have hz2 := hb_2.size; have hz3 := hb_3.size; have hz4 := hb_4.size
  simp only [World.size_alloc] at hz2 hz3 hz4
  clear cB0_2 fB0_2 zB0_2 cB0_3 fB0_3 zB0_3 cB1_3 fB1_3 zB1_3 cB0_4 fB0_4 zB0_4 cB1_4 fB1_4 zB1_4 cB2_4 fB2_4 zB2_4 hb_1 hb_2 hb_3 hb_4 hz_1 hz_2 hz_3 hz_4 HRD HRD2 HRD3 hs
  by_cases hv : recV a b c' d = true
  · have hp := recV_t.1 hv
    obtain ⟨r, hr1, hr2, hr3⟩ := run_parts hp xs (n / 2)
    obtain ⟨hla, hlb⟩ := lasting_law hp
    obtain ⟨M1, hM1e⟩ : ∃ M1, runN a b c' d (xs.take (n / 2)) = M1 := ⟨_, rfl⟩
    obtain ⟨M2, hM2e⟩ : ∃ M2, runN r.a r.b r.c r.d (xs.drop (n / 2)) = M2 := ⟨_, rfl⟩
    rw [hM1e, hM2e, HRM.out.2] at hr3
    rw [HRM.out.1] at hr2
    have hM1b := runN_bd a b c' d (xs.take (n / 2))
    have hM2b := runN_bd r.a r.b r.c r.d (xs.drop (n / 2))
    rw [hM1e] at hM1b
    rw [hM2e] at hM2b
    have hlt : (xs.take (n / 2)).length = n / 2 := by rw [List.length_take, HN.out]; omega
    have hld : (xs.drop (n / 2)).length = n - n / 2 := by rw [List.length_drop, HN.out]
    obtain ⟨hM10, hM11⟩ := hM1b
    obtain ⟨hM20, hM21⟩ := hM2b
    rw [hlt] at hM11
    rw [hld] at hM21
    have hc1 := implRecRun_as hlt (by omega) hr1 hM1e
    have hc2 := implRecRun_as hld (by omega) hr2 hM2e
    have HC1 := Lib.hid hc1; have HC2 := Lib.hid hc2; clear hc1 hc2 hr1 hr2 hM1e hM2e hlt hld
    obtain ⟨L, hLe⟩ : ∃ L, runOut a b c' d (List.replicate 40 true) = L := ⟨_, rfl⟩
    obtain ⟨O, hOe⟩ : ∃ O, runN a b c' d (List.replicate 40 true) = O := ⟨_, rfl⟩
    have hc3 := implRecRun_as (n := 40) (xs := List.replicate 40 true) (by simp) (by omega) hLe hOe
    rw [hLe] at hla
    rw [hOe] at hlb
    have HC3 := Lib.hid hc3; clear hc3 hLe hOe
    have hs1 := slice_take (P := Tryd.prog) (t := 34) (k := 1) (n := n) (A := A1) (cp := cp1) (h := n / 2) Tryd.underlying34 (fun _ => rfl) (by omega)
    obtain ⟨A2, hA2, hs2⟩ := slice_drop (α := Bool) (P := Tryd.prog) (t := 34) (k := 1) (n := n) (c := boolC) (A := A1) (cp := cp1) (h := n / 2) (xs := xs) Tryd.underlying34 (fun _ => rfl) HN.out (by omega) hcap1
    have HA2 := Lib.hid hA2; clear hA2
    have hbp : 0 ≤ b ∧ b ≤ 3 := by unfold RecP at hp; omega
    obtain ⟨hb0, hb3⟩ := hbp
    clear hp
    have hdv : (n : Int).tdiv 2 = ((n / 2 : Nat) : Int) := by rw [Int.tdiv_eq_ediv_of_nonneg (by omega)]; omega
    have hdv2 : (n : Int) / 2 = ((n / 2 : Nat) : Int) := by omega
    have hhn : n / 2 ≤ n := by omega
    generalize n / 2 = h at *
    have c0 : w4.cell? ⟨w1.heap.size, 0, none⟩ = some (.int .i64 a) := by rw [Kr.out.cell]; rfl
    have c1 : w4.cell? ⟨w1.heap.size, 1, none⟩ = some (.int .i64 b) := by rw [Kr.out.cell]; rfl
    have c2 : w4.cell? ⟨w1.heap.size, 2, none⟩ = some (.int .i64 c') := by rw [Kr.out.cell]; rfl
    have c3 : w4.cell? ⟨w1.heap.size, 3, none⟩ = some (.int .i64 d) := by rw [Kr.out.cell]; rfl
    have hzr := Kr.out.lt
    go_upto_region 11 with fail
    go_cut [10, 11] (fun sp si wx => si = .int .i64 M1 ∧ ∃ g7 : Nat, sp = .pointer (some ⟨g7, 0, none⟩) ∧ Hid (Bk wx g7 24 #[.int .i64 r.a, .int .i64 r.b, .int .i64 r.c, .int .i64 r.d] ∧ w4.heap.size ≤ g7 ∧ Below w4.heap.size w4 wx))
    case first =>
      go_region_held3 (fun w' => w'.cell? ⟨w1.heap.size, 0, none⟩ = some (.int .i64 a) ∧ w'.cell? ⟨w1.heap.size, 1, none⟩ = some (.int .i64 b) ∧ w'.cell? ⟨w1.heap.size, 2, none⟩ = some (.int .i64 c') ∧ w'.cell? ⟨w1.heap.size, 3, none⟩ = some (.int .i64 d)) (simp [go_sem, World.cell?_alloc_past, *])
        (first | (go_at_call 20; refine (HC1.out _ _ _ (by first | exact reads_drew (HRD4.out.takeS h) | exact reads_drew (reads_alloc (HRD4.out.takeS h) _))).mono ?_; rintro e wk ⟨rfl, hb⟩; have cB0 := keepB hb (g := w1.heap.size) (by go_size); have zB0 := keepZ hb (g := w1.heap.size) (by go_size); have cB3 := fun i h => keepB hb (g := i) h; have fB3 := fun i h => keepF hb (g := i) h; have zB3 := fun i h => keepZ hb (g := i) h))
      · go_wp2_with fail
        go_meet
        have hb2 : Below w4.heap.size w4 wk := undrew hb
        have hzz := hb2.size
        clear hb
        refine ⟨rfl, wk.heap.size, rfl, Bk.new _ _ _, hzz, ?_⟩
        (repeat' (first | (with_reducible exact Below.refl _ _) | (with_reducible refine Below.alloc ?_ ?_ _) | (with_reducible refine Below.setCell ?_ ?_ _) | (with_reducible refine Below.drew ?_) | (refine Below.trans ?_ (Below.mono (by with_reducible assumption) ?_)) | go_size))
      · go_wp2_with fail
        go_meet
        have hb2 : Below w4.heap.size w4 wk := Below.trans (Below.alloc (Below.refl w4.heap.size w4) (Nat.le_refl _) _) ((undrew hb).mono (by simp))
        refine ⟨rfl, w4.heap.size, rfl, (Bk.keep (w := (w4.alloc _).drew) (Bk.new w4 _ _) hb).set4, Nat.le_refl _, ?_⟩
        clear hb
        (repeat' (first | (with_reducible exact Below.refl _ _) | (with_reducible refine Below.alloc ?_ ?_ _) | (with_reducible refine Below.setCell ?_ ?_ _) | (with_reducible refine Below.drew ?_) | (refine Below.trans ?_ (Below.mono (by with_reducible assumption) ?_)) | go_size))
    case rest =>
      obtain ⟨rfl, g10, rfl, HG⟩ := hcut
      generalize wc = w5 at *
      have HB5 : Hid (Below w.heap.size w w5) := HB4.out.trans (HG.out.2.2.mono HB4.out.size)
      have Kr5 := Lib.hid (Kr.out.keep HG.out.2.2)
      have Kx5 := Lib.hid (Kx.out.keep HG.out.2.2)
      have HRD5 := Lib.hid ((HRD4.out.below HG.out.2.2 (Nat.le_refl _)).more HG.out.2.2.size)
      have Ka5 := Lib.hid HG.out.1
      have hz5 := HG.out.2.2.size
      clear c0 c1 c2 c3 HG Kr Kx HRD4 HB4
      have c0 : w5.cell? ⟨g10, 0, none⟩ = some (.int .i64 r.a) := by rw [Ka5.out.cell]; rfl
      have c1 : w5.cell? ⟨g10, 1, none⟩ = some (.int .i64 r.b) := by rw [Ka5.out.cell]; rfl
      have c2 : w5.cell? ⟨g10, 2, none⟩ = some (.int .i64 r.c) := by rw [Ka5.out.cell]; rfl
      have c3 : w5.cell? ⟨g10, 3, none⟩ = some (.int .i64 r.d) := by rw [Ka5.out.cell]; rfl
      have hzg := Ka5.out.lt
      go_upto_region 12 with fail
      go_cut [12, 13] (fun sp si wx => si = .int .i64 M2 ∧ ∃ g7 : Nat, sp = .pointer (some ⟨g7, 0, none⟩) ∧ Hid (Bk wx g7 24 #[.int .i64 R.a, .int .i64 R.b, .int .i64 R.c, .int .i64 R.d] ∧ w5.heap.size ≤ g7 ∧ Below w5.heap.size w5 wx))
      case first =>
        go_region_held3 (fun w' => w'.cell? ⟨g10, 0, none⟩ = some (.int .i64 r.a) ∧ w'.cell? ⟨g10, 1, none⟩ = some (.int .i64 r.b) ∧ w'.cell? ⟨g10, 2, none⟩ = some (.int .i64 r.c) ∧ w'.cell? ⟨g10, 3, none⟩ = some (.int .i64 r.d)) (simp [go_sem, World.cell?_alloc_past, *])
          (first | (go_at_call 20; refine (HC2.out _ _ _ (by first | exact reads_drew (HA2.out _ _ HRD5.out) | exact reads_drew (reads_alloc (HA2.out _ _ HRD5.out) _))).mono ?_; rintro e wk ⟨rfl, hb⟩; have cB0 := keepB hb (g := g10) (by go_size); have zB0 := keepZ hb (g := g10) (by go_size); have cB3 := fun i h => keepB hb (g := i) h; have fB3 := fun i h => keepF hb (g := i) h; have zB3 := fun i h => keepZ hb (g := i) h))
        · go_wp2_with fail
          go_meet
          have hb2 : Below w5.heap.size w5 wk := undrew hb
          have hzz := hb2.size
          clear hb
          refine ⟨rfl, wk.heap.size, rfl, Bk.new _ _ _, hzz, ?_⟩
          (repeat' (first | (with_reducible exact Below.refl _ _) | (with_reducible refine Below.alloc ?_ ?_ _) | (with_reducible refine Below.setCell ?_ ?_ _) | (with_reducible refine Below.drew ?_) | (refine Below.trans ?_ (Below.mono (by with_reducible assumption) ?_)) | go_size))
        · go_wp2_with fail
          go_meet
          have hb2 : Below w5.heap.size w5 wk := Below.trans (Below.alloc (Below.refl w5.heap.size w5) (Nat.le_refl _) _) ((undrew hb).mono (by simp))
          refine ⟨rfl, w5.heap.size, rfl, (Bk.keep (w := (w5.alloc _).drew) (Bk.new w5 _ _) hb).set4, Nat.le_refl _, ?_⟩
          clear hb
          (repeat' (first | (with_reducible exact Below.refl _ _) | (with_reducible refine Below.alloc ?_ ?_ _) | (with_reducible refine Below.setCell ?_ ?_ _) | (with_reducible refine Below.drew ?_) | (refine Below.trans ?_ (Below.mono (by with_reducible assumption) ?_)) | go_size))
      case rest =>
        obtain ⟨rfl, g12, rfl, HG⟩ := hcut
        generalize wc = w6 at *
        have HB6 : Hid (Below w.heap.size w w6) := HB5.out.trans (HG.out.2.2.mono HB5.out.size)
        have Kr6 := Lib.hid (Kr5.out.keep HG.out.2.2)
        have Kx6 := Lib.hid (Kx5.out.keep HG.out.2.2)
        have Kb6 := Lib.hid HG.out.1
        have hz6 := HG.out.2.2.size
        clear c0 c1 c2 c3 HG Kr5 Kx5 HRD5 HB5 Ka5 hs1 hs2
        have hmk := fun W => run_mk (P := Tryd.prog) 34 4 (.bool false) 1 1 40 Tryd.underlying34 (by kernel_rfl) (by omega) (by omega) W
        have HRow := Lib.hid (World.rowIs_made w6 (.bool false) 40 4)
        have hmk2 : ∀ W : World, (Instr.makeSlice 34 (.int .i64 40) (.int .i64 40)).run Tryd.prog W = .ok (.slice (some ⟨W.heap.size, 0, none⟩) 40 40) (W.alloc (.cells (madeCells #[Value.bool false] 40) 4)) := fun W => hmk W
        clear hmk
        generalize madeCells #[Value.bool false] 40 = mc at hmk2 HRow
        have Kr7 := Lib.hid (Kr6.out.alloc (.cells mc 4))
        have Kx7 := Lib.hid (Kx6.out.alloc (.cells mc 4))
        have Kb7 := Lib.hid (Kb6.out.alloc (.cells mc 4))
        have hzr6 := Kr6.out.lt
        have hzx6 := Kx6.out.lt
        have hzb6 := Kb6.out.lt
        have HB7 : Hid (Below w.heap.size w (w6.alloc (.cells mc 4))) := by unfold Hid; have hq := HB6.out; have hqz := hq.size; (repeat' (first | (with_reducible exact Below.refl _ _) | (with_reducible refine Below.alloc ?_ ?_ _) | (with_reducible refine Below.setCell ?_ ?_ _) | (with_reducible refine Below.drew ?_) | (refine Below.trans ?_ (Below.mono (by with_reducible assumption) ?_)) | go_size))
        go_wp2_with fail
        clear hmk2
        go_loopw [15] (fun t wr => ∃ i : Nat, t = .int .i64 i ∧ i ≤ 40 ∧ Hid (wr.rowIs w6.heap.size 4 40 (fun j => if j < i then .bool true else .bool false)) ∧ Hid (Bk wr w1.heap.size 24 #[.int .i64 a, .int .i64 b, .int .i64 c', .int .i64 d] ∧ Bk wr w2.heap.size 24 #[.int .i64 R.a, .int .i64 R.b, .int .i64 R.c, .int .i64 R.d] ∧ Bk wr g12 24 #[.int .i64 R.a, .int .i64 R.b, .int .i64 R.c, .int .i64 R.d]) ∧ Hid (Below w.heap.size w wr)) (fun t _ => 40 - (intOf t).toNat)
        case atStart => exact ⟨0, rfl, by omega, HRow.out.congr (fun i _ => by simp), ⟨Kr7.out, Kx7.out, Kb7.out⟩, HB7⟩
        case round =>
          obtain ⟨i, rfl, hi, HRow2, HK, HBr⟩ := hrel
          clear HRow Kr7 Kx7 Kb7 HB7
          have hwz := HRow2.out.lt
          by_cases hlt : i < 40
          · have hc2 := HRow2.out.cell hlt
            have hf2 := HRow2.out.frozen i
            simp only [Nat.lt_irrefl, if_false] at hc2
            go_wp2_with fail
            refine ⟨⟨i + 1, by go_num, by omega, ?_, ⟨HK.out.1.far (p := ⟨w6.heap.size, i, none⟩) (by simp; omega) _, HK.out.2.1.far (p := ⟨w6.heap.size, i, none⟩) (by simp; omega) _, HK.out.2.2.far (p := ⟨w6.heap.size, i, none⟩) (by simp; omega) _⟩, ?_⟩, by simp [intOf]; omega⟩
            · unfold Hid
              refine (HRow2.out.set i _).congr (fun j hj => ?_)
              by_cases hji : j = i
              · subst hji; rw [if_pos rfl, if_pos (by omega)]
              · rw [if_neg hji]
                by_cases hj2 : j < i
                · rw [if_pos hj2, if_pos (by omega)]
                · rw [if_neg hj2, if_neg (by omega)]
            · unfold Hid; exact HBr.out.setCell (by have := HB6.out.size; simp; omega) _
          · obtain rfl : i = 40 := by omega
            have hrd : Reads 1 boolC wr wr.heap.size (some ⟨w6.heap.size, 0, none⟩) (List.replicate 40 true) := by
              refine .inr ⟨_, _, rfl, hwz, fun i x hx j hj => ?_⟩
              have e : x = true := (List.mem_replicate.1 (List.mem_of_getElem? hx)).2
              obtain ⟨hi, _⟩ := getElem?_of_lt hx
              simp at hi
              subst e
              obtain rfl : j = 0 := by omega
              rw [Nat.zero_add, Nat.mul_one, Nat.add_zero, HRow2.out.cell hi, if_pos hi]; rfl
            have HRD := Lib.hid hrd; clear hrd HRow2
            have cr := HK.out.1.cell
            have cr1 := HK.out.1.lt
            have cx := HK.out.2.1.cell
            have cb := HK.out.2.2.cell
            have zx := HK.out.2.1.lt
            have zb := HK.out.2.2.lt
            go_wp2_with fail; ((with_reducible refine (HC3.out _ 40 wr HRD.out).mono ?_); rintro e w7 ⟨rfl, hb_5⟩); have cB0_5 := keepB hb_5 (g := w1.heap.size) (by go_size); have fB0_5 := keepF hb_5 (g := w1.heap.size) (by go_size); have zB0_5 := keepZ hb_5 (g := w1.heap.size) (by go_size); have cB1_5 := keepB hb_5 (g := w2.heap.size) (by go_size); have fB1_5 := keepF hb_5 (g := w2.heap.size) (by go_size); have zB1_5 := keepZ hb_5 (g := w2.heap.size) (by go_size); have cB2_5 := keepB hb_5 (g := g12) (by go_size); have fB2_5 := keepF hb_5 (g := g12) (by go_size); have zB2_5 := keepZ hb_5 (g := g12) (by go_size); have hz_5 := hb_5.size; (try simp only [World.size_alloc, World.size_setCell, World.size_drew] at hz_5)
            have hMM : M1 + M2 = M := hr3
            have hB7 : Hid (Below w.heap.size w w7) := HBr.out.trans (hb_5.mono HBr.out.size)
            have hla' : L.a = 2 := hla
            by_cases ha : a = 0
            · rw [if_pos ha] at hlb
              have ha' : (a == 0) = true := by simp [ha]
              have hO : O = 3 - b + 1 := hlb
              clear hlb hr3 hla ha
              go_wp2_with fail
              all_goals try (exfalso; omega; done)
              go_ret
              refine ⟨rfl, ?_⟩
              have hq := hB7.out
              have hqz := hq.size
              clear hb_5
              (repeat' (first | (with_reducible exact Below.refl _ _) | (with_reducible refine Below.alloc ?_ ?_ _) | (with_reducible refine Below.setCell ?_ ?_ _) | (with_reducible refine Below.drew ?_) | (refine Below.trans ?_ (Below.mono (by with_reducible assumption) ?_)) | go_size))
            · rw [if_neg ha] at hlb
              have ha' : (a == 0) = false := by simp [ha]
              have hO : O = 3 - b := by omega
              clear hlb hr3 hla ha
              go_wp2_with fail
              all_goals try (exfalso; omega; done)
              go_ret
              refine ⟨rfl, ?_⟩
              have hq := hB7.out
              have hqz := hq.size
              clear hb_5
              (repeat' (first | (with_reducible exact Below.refl _ _) | (with_reducible refine Below.alloc ?_ ?_ _) | (with_reducible refine Below.setCell ?_ ?_ _) | (with_reducible refine Below.drew ?_) | (refine Below.trans ?_ (Below.mono (by with_reducible assumption) ?_)) | go_size))
  · have hv' : recV a b c' d = false := by simpa using hv
    have hR0 : R = ⟨0, 0, 0, 0⟩ := by rw [← HRM.out.1]; simp [runOut, hv']
    have hM0 : M = 0 := by rw [← HRM.out.2]; simp [runN, hv']
    subst hR0 hM0
    have cx := Kx.out.cell
    have zx := Kx.out.lt
    clear hv
    go_wp2_with fail; ((with_reducible refine (alive_any _).mono ?_); rintro e w5 ⟨rfl, hb_6⟩); have hz_6 := hb_6.size; (try simp only [World.size_alloc, World.size_setCell, World.size_drew] at hz_6)
    go_wp2_with fail
    go_ret
    refine ⟨rfl, ?_⟩; have hB4 := HB4.out; have hB4z := hB4.size; (repeat' (first | (with_reducible exact Below.refl _ _) | (with_reducible refine Below.alloc ?_ ?_ _) | (with_reducible refine Below.setCell ?_ ?_ _) | (with_reducible refine Below.drew ?_) | (refine Below.trans ?_ (Below.mono (by with_reducible assumption) ?_)) | go_size))
end Go.Proofs.YtkibkmhmlkfhfaaDoor
