/- The law FnRecTicks: its walk. -/
import Derived.Test.YtkibkmhmlkfhfaaDoorRecW
import Derived.Test.YtkibkmhmlkfhfaaDoorRecP
namespace Go.Proofs.YtkibkmhmlkfhfaaDoor
open Go.RowKit Go.Deep
set_option linter.unusedSimpArgs false
set_option linter.unusedVariables false
theorem implRecRun_n (s sh wt g : Int) (A : Option Addr) (n c : Nat) (xs : List Bool) (w : World) (hn : xs.length = n) (hR : Reads 1 boolC w w.heap.size A xs) (hl : n ≤ 1048576) :
    Calls Tryd.prog 20 #[.agg #[.int .i64 s, .int .i64 sh, .int .i64 wt, .int .i64 g], .slice A n c] w fun e w' => e = .returned (.tuple #[rv (runOut s sh wt g xs), .int .i64 (runN s sh wt g xs)]) ∧ Below w.heap.size w w' := by
  subst hn; exact implRecRun_any s sh wt g A c xs w hR hl
theorem specRecRun_n (s sh wt g : Int) (A : Option Addr) (n c : Nat) (xs : List Bool) (w : World) (hn : xs.length = n) (hR : Reads 1 boolC w w.heap.size A xs) (hl : n ≤ 1048576) :
    Calls Tryd.prog 21 #[.agg #[.int .i64 s, .int .i64 sh, .int .i64 wt, .int .i64 g], .slice A n c] w fun e w' => e = .returned (.tuple #[rv (runOut s sh wt g xs), .int .i64 (runN s sh wt g xs)]) ∧ Below w.heap.size w w' := by
  subst hn; exact specRecRun_any s sh wt g A c xs w hR hl
theorem reads_alloc {α : Type} {k : Nat} {c : α → Nat → Value} {w : World} {A : Option Addr} {xs : List α} (h : Reads k c w w.heap.size A xs) (o : Obj) : Reads k c (w.alloc o) (w.alloc o).heap.size A xs :=
  (h.below (Below.alloc (Below.refl w.heap.size w) (Nat.le_refl _) o) (Nat.le_refl _)).more (by simp)
theorem reads_drew {α : Type} {k : Nat} {c : α → Nat → Value} {w : World} {A : Option Addr} {xs : List α} (h : Reads k c w w.heap.size A xs) : Reads k c w.drew w.drew.heap.size A xs := h
theorem reads_made (w : World) (n : Nat) (T : TypeId) : Reads 1 boolC (w.alloc (.cells (madeCells (Value.bool false).cells (n * 1)) T)) (w.alloc (.cells (madeCells (Value.bool false).cells (n * 1)) T)).heap.size (some ⟨w.heap.size, 0, none⟩) (List.replicate n false) := by
  have h := World.rowIs_made w (.bool false) n T
  rw [Nat.mul_one]
  refine .inr ⟨_, _, rfl, by simp, fun i x hx j hj => ?_⟩
  have e : x = false := (List.mem_replicate.1 (List.mem_of_getElem? hx)).2
  obtain ⟨hi, _⟩ := getElem?_of_lt hx
  simp at hi
  subst e
  obtain rfl : j = 0 := by omega
  rw [Nat.zero_add, Nat.mul_one, Nat.add_zero]; exact h.cell hi

set_option maxHeartbeats 4000000 in
theorem fnRecTicks_any (A : Option Addr) (n c : Nat) (bs : List Int) (w : World) (hn : bs.length = n) (hb : ∀ x ∈ bs, U8 x) (hc : n ≤ c) (hcm : c ≤ maxLen) (hR : Reads 1 byteC w w.heap.size A bs) :
    Calls Tryd.prog 7 #[.slice A n c] w fun e w' => e = .returned (.bool true) ∧ Below w.heap.size w w' := by
  unfold maxLen at hcm
  subst hn
  have HR := Lib.hid hR; clear hR
  have HB := Lib.hid hb; clear hb
  have hnn : ∀ x : Int, (x != x) = false := fun x => by simp
  by_cases hl : bs.length ≤ 1048576
  · have hl' : ¬ (1048576 : Int) < bs.length := by omega
    go_enter Tryd.func7, Tryd.ntmps7
    go_wp2_with fail; ((with_reducible refine (drawRecTicks_any A c bs w HR.out HB.out hl hc hcm).mono ?_); rintro e w1 ⟨a, b, c', d, rfl, hs, hb_1⟩); have hz_1 := hb_1.size; (try simp only [World.size_alloc, World.size_setCell, World.size_drew] at hz_1)
    have hI1 : I64 d := by unfold SmallR at hs; unfold I64; omega
    have hI2 : I64 c' := by unfold SmallR at hs; unfold I64; omega
    have HI := Lib.hid (And.intro hI1 hI2)
    clear hs hI1 hI2
    by_cases hx : recTicks a b c' d < 0
    · have hm : recTicks a b c' d = -1 := by
        by_cases hp : RecP a b c' d ∧ ¬ a = 2
        · exfalso
          have t := recTicks_lin hp.1 hp.2
          have hq := hp.1
          unfold RecP at hq
          omega
        · exact recTicks_bad hp
      have HM := Lib.hid hm; clear hm hx
      go_wp2_with fail; ((with_reducible refine (implRecTicks_any _ _ _ _ _).mono ?_); rintro e w2 ⟨rfl, hb_2⟩); have cB0_2 := keepB hb_2 (g := w1.heap.size) (by go_size); have fB0_2 := keepF hb_2 (g := w1.heap.size) (by go_size); have zB0_2 := keepZ hb_2 (g := w1.heap.size) (by go_size); have hz_2 := hb_2.size; (try simp only [World.size_alloc, World.size_setCell, World.size_drew] at hz_2)
      rw [HM.out]
      go_wp2_with fail; ((with_reducible refine (specRecTicks_any _ _ _ _ _ HI.out.1 HI.out.2).mono ?_); rintro e w3 ⟨rfl, hb_3⟩); have cB0_3 := keepB hb_3 (g := w1.heap.size) (by go_size); have fB0_3 := keepF hb_3 (g := w1.heap.size) (by go_size); have zB0_3 := keepZ hb_3 (g := w1.heap.size) (by go_size); have hz_3 := hb_3.size; (try simp only [World.size_alloc, World.size_setCell, World.size_drew] at hz_3)
      rw [HM.out]
      go_wp2_with fail; ((with_reducible refine (alive_any _).mono ?_); rintro e w4 ⟨rfl, hb_4⟩); have hz_4 := hb_4.size; (try simp only [World.size_alloc, World.size_setCell, World.size_drew] at hz_4)
      go_wp2
      go_ret
      refine ⟨rfl, ?_⟩; (repeat' (first | (with_reducible exact Below.refl _ _) | (with_reducible refine Below.alloc ?_ ?_ _) | (with_reducible refine Below.setCell ?_ ?_ _) | (with_reducible refine Below.drew ?_) | (refine Below.trans ?_ (Below.mono (by with_reducible assumption) ?_)) | go_size))
    · have hp : RecP a b c' d ∧ ¬ a = 2 := by
        by_cases hp : RecP a b c' d ∧ ¬ a = 2
        · exact hp
        · exfalso; rw [recTicks_bad hp] at hx; omega
      have ht := ticks_law hp.1 (by omega)
      unfold TicksP at ht
      obtain ⟨m, hm⟩ : ∃ m : Nat, recTicks a b c' d = m := ⟨(recTicks a b c' d).toNat, by omega⟩
      rw [hm, Int.toNat_natCast] at ht
      obtain ⟨hm10, ⟨y0, y1, y2, y3⟩, hn0, ht0, ht1⟩ := ht
      have HM := Lib.hid hm; clear hm hx hp
      have hcall : ∀ (W : World) (A : Option Addr), Reads 1 boolC W W.heap.size A (List.replicate m false) → Calls Tryd.prog 20 #[.agg #[.int .i64 a, .int .i64 b, .int .i64 c', .int .i64 d], .slice A m m] W fun e w' => e = .returned (.tuple #[.agg #[.int .i64 0, .int .i64 0, .int .i64 0, .int .i64 0], .int .i64 0]) ∧ Below W.heap.size W w' := by
        intro W A hR
        have h := implRecRun_n a b c' d A m m (List.replicate m false) W (by simp) hR (by omega)
        rw [hn0] at h
        unfold rv at h
        rw [y0, y1, y2, y3] at h
        exact h
      have HCALL := Lib.hid hcall; clear hcall y0 y1 y2 y3 hn0
      have hmk := fun W => run_mk (P := Tryd.prog) 34 4 (.bool false) 1 1 m Tryd.underlying34 (by kernel_rfl) (by omega) (by omega) W
      have hrm := fun (W : World) (g : Nat) (hg : g = W.heap.size) => show Reads 1 boolC (W.alloc (.cells (madeCells (Value.bool false).cells (m * 1)) 4)) (W.alloc (.cells (madeCells (Value.bool false).cells (m * 1)) 4)).heap.size (some ⟨g, 0, none⟩) (List.replicate m false) by rw [hg]; exact reads_made W m 4
      generalize madeCells (Value.bool false).cells (m * 1) = mc at hmk hrm
      have HMK := Lib.hid hmk; clear hmk
      have HRM := Lib.hid hrm; clear hrm
      have HT0 := Lib.hid ht0
      have HT1 := Lib.hid ht1
      clear ht0 ht1
      have hm0 : ¬ (m : Int) < 0 := by omega
      go_wp2_with fail; ((with_reducible refine (implRecTicks_any _ _ _ _ _).mono ?_); rintro e w2 ⟨rfl, hb_5⟩); have cB0_5 := keepB hb_5 (g := w1.heap.size) (by go_size); have fB0_5 := keepF hb_5 (g := w1.heap.size) (by go_size); have zB0_5 := keepZ hb_5 (g := w1.heap.size) (by go_size); have hz_5 := hb_5.size; (try simp only [World.size_alloc, World.size_setCell, World.size_drew] at hz_5)
      rw [HM.out]
      go_wp2_with fail; ((with_reducible refine (specRecTicks_any _ _ _ _ _ HI.out.1 HI.out.2).mono ?_); rintro e w3 ⟨rfl, hb_6⟩); have cB0_6 := keepB hb_6 (g := w1.heap.size) (by go_size); have fB0_6 := keepF hb_6 (g := w1.heap.size) (by go_size); have zB0_6 := keepZ hb_6 (g := w1.heap.size) (by go_size); have hz_6 := hb_6.size; (try simp only [World.size_alloc, World.size_setCell, World.size_drew] at hz_6)
      rw [HM.out]
      have hmk := HMK.out
      have HB3 : Hid (Below w.heap.size w w3) := by unfold Hid; (repeat' (first | (with_reducible exact Below.refl _ _) | (with_reducible refine Below.alloc ?_ ?_ _) | (with_reducible refine Below.setCell ?_ ?_ _) | (with_reducible refine Below.drew ?_) | (refine Below.trans ?_ (Below.mono (by with_reducible assumption) ?_)) | go_size))
      have HK : Hid (Bk w3 w1.heap.size 24 #[.int .i64 a, .int .i64 b, .int .i64 c', .int .i64 d]) := ((Bk.new w1 _ _).keep hb_5).keep hb_6
      have c0 : w3.cell? ⟨w1.heap.size, 0, none⟩ = some (.int .i64 a) := by rw [HK.out.cell]; rfl
      have c1 : w3.cell? ⟨w1.heap.size, 1, none⟩ = some (.int .i64 b) := by rw [HK.out.cell]; rfl
      have c2 : w3.cell? ⟨w1.heap.size, 2, none⟩ = some (.int .i64 c') := by rw [HK.out.cell]; rfl
      have c3 : w3.cell? ⟨w1.heap.size, 3, none⟩ = some (.int .i64 d) := by rw [HK.out.cell]; rfl
      have hz3 := HK.out.lt
      clear cB0_5 fB0_5 zB0_5 cB0_6 fB0_6 zB0_6 hb_1 hb_5 hb_6 hz_1 hz_5 hz_6
      go_upto_region 9 with fail
      go_cut [5, 6] (fun s5 s6 wx => s6 = .int .i64 0 ∧ ∃ g5 : Nat, s5 = .pointer (some ⟨g5, 0, none⟩) ∧ Hid (Bk wx g5 24 #[.int .i64 0, .int .i64 0, .int .i64 0, .int .i64 0] ∧ w3.heap.size ≤ g5 ∧ Below w3.heap.size w3 wx))
      case first =>
        go_region_held3 (fun w' => w'.cell? ⟨w1.heap.size, 0, none⟩ = some (.int .i64 a) ∧ w'.cell? ⟨w1.heap.size, 1, none⟩ = some (.int .i64 b) ∧ w'.cell? ⟨w1.heap.size, 2, none⟩ = some (.int .i64 c') ∧ w'.cell? ⟨w1.heap.size, 3, none⟩ = some (.int .i64 d)) (simp [go_sem, World.cell?_alloc_past, *])
          (first | (go_at_call 20; refine (HCALL.out _ _ ?hrd).mono ?_; (case hrd => first | (refine reads_drew (HRM.out _ _ ?_); (first | rfl | (simp; done))) | (refine reads_drew (reads_alloc (HRM.out _ _ ?_) _); (first | rfl | (simp; done))) | (refine HRM.out _ _ ?_; (first | rfl | (simp; done))) | (refine reads_alloc (HRM.out _ _ ?_) _; (first | rfl | (simp; done)))); rintro e w4 ⟨rfl, hb⟩; have cB0 := keepB hb (g := w1.heap.size) (by go_size); have zB0 := keepZ hb (g := w1.heap.size) (by go_size); have cB3 := fun i h => keepB hb (g := i) h; have fB3 := fun i h => keepF hb (g := i) h; have zB3 := fun i h => keepZ hb (g := i) h))
        · go_wp2_with fail
          go_meet
          have hb2 : Below w3.heap.size w3 w4 := Below.trans (Below.alloc (Below.refl w3.heap.size w3) (Nat.le_refl _) _) ((undrew hb).mono (by simp))
          have hzz := hb2.size
          clear hb
          refine ⟨rfl, w4.heap.size, rfl, Bk.new _ _ _, hzz, ?_⟩
          (repeat' (first | (with_reducible exact Below.refl _ _) | (with_reducible refine Below.alloc ?_ ?_ _) | (with_reducible refine Below.setCell ?_ ?_ _) | (with_reducible refine Below.drew ?_) | (refine Below.trans ?_ (Below.mono (by with_reducible assumption) ?_)) | go_size))
        · go_wp2_with fail
          go_meet
          have hb2 : Below w3.heap.size w3 w4 := Below.trans (Below.alloc (Below.alloc (Below.refl w3.heap.size w3) (Nat.le_refl _) _) (by simp) _) ((undrew hb).mono (by simp; omega))
          refine ⟨rfl, w3.heap.size + 1, rfl, (Bk.keep (w := ((w3.alloc (.cells mc 4)).alloc _).drew) (Bk.new_at (w3.alloc (.cells mc 4)) _ _ (by simp)) hb).set4, by omega, ?_⟩
          clear hb
          (repeat' (first | (with_reducible exact Below.refl _ _) | (with_reducible refine Below.alloc ?_ ?_ _) | (with_reducible refine Below.setCell ?_ ?_ _) | (with_reducible refine Below.drew ?_) | (refine Below.trans ?_ (Below.mono (by with_reducible assumption) ?_)) | go_size))
        · go_wp2_with fail
          go_meet
          have hb2 : Below w3.heap.size w3 w4 := Below.trans (Below.alloc (Below.alloc (Below.refl w3.heap.size w3) (Nat.le_refl _) _) (by simp) _) ((undrew hb).mono (by simp; omega))
          refine ⟨rfl, w3.heap.size, rfl, (Bk.keep (w := ((w3.alloc _).alloc (.cells mc 4)).drew) ((Bk.new w3 _ _).alloc _) hb).set4, Nat.le_refl _, ?_⟩
          clear hb
          (repeat' (first | (with_reducible exact Below.refl _ _) | (with_reducible refine Below.alloc ?_ ?_ _) | (with_reducible refine Below.setCell ?_ ?_ _) | (with_reducible refine Below.drew ?_) | (refine Below.trans ?_ (Below.mono (by with_reducible assumption) ?_)) | go_size))
      case rest =>
        obtain ⟨rfl, g5, rfl, HG⟩ := hcut
        have HBc : Hid (Below w.heap.size w wc) := HB3.out.trans (HG.out.2.2.mono HB3.out.size)
        have HKc := Lib.hid (HK.out.keep HG.out.2.2)
        have cB5 := HG.out.1.cell
        have cBr := HKc.out.cell
        have hzc := HKc.out.lt
        clear c0 c1 c2 c3
        by_cases hm : m = 0
        · obtain ⟨rfl, rfl, rfl, rfl⟩ := HT0.out hm
          subst hm
          go_wp2_with fail
          go_ret
          refine ⟨rfl, ?_⟩
          exact HBc.out
        · obtain ⟨q, rfl⟩ : ∃ q, m = q + 1 := ⟨m - 1, by omega⟩
          have hq1 : ((q : Int) + 1 == 0) = false := by rw [beq_eq_false_iff_ne]; omega
          have hne := HT1.out hm
          rw [Nat.add_sub_cancel] at hne
          clear HT0 HT1 hmk HMK HRM HCALL hm
          have hcall : ∀ (W : World) (A : Option Addr), Reads 1 boolC W W.heap.size A (List.replicate q false) → Calls Tryd.prog 20 #[.agg #[.int .i64 a, .int .i64 b, .int .i64 c', .int .i64 d], .slice A q q] W fun e w' => e = .returned (.tuple #[rv (runOut a b c' d (List.replicate q false)), .int .i64 (runN a b c' d (List.replicate q false))]) ∧ Below W.heap.size W w' := fun W A hR => implRecRun_n a b c' d A q q (List.replicate q false) W (by simp) hR (by omega)
          have hmk := fun W => run_mk (P := Tryd.prog) 34 4 (.bool false) 1 1 q Tryd.underlying34 (by kernel_rfl) (by omega) (by omega) W
          have hrm := fun (W : World) (g : Nat) (hg : g = W.heap.size) => show Reads 1 boolC (W.alloc (.cells (madeCells (Value.bool false).cells (q * 1)) 4)) (W.alloc (.cells (madeCells (Value.bool false).cells (q * 1)) 4)).heap.size (some ⟨g, 0, none⟩) (List.replicate q false) by rw [hg]; exact reads_made W q 4
          generalize madeCells (Value.bool false).cells (q * 1) = md at hmk hrm
          generalize runOut a b c' d (List.replicate q false) = R at hcall hne
          generalize runN a b c' d (List.replicate q false) = M at hcall
          unfold rv at hcall
          have HCALL := Lib.hid hcall; clear hcall
          have HRM := Lib.hid hrm; clear hrm
          have c0 : wc.cell? ⟨w1.heap.size, 0, none⟩ = some (.int .i64 a) := by rw [HKc.out.cell]; rfl
          have c1 : wc.cell? ⟨w1.heap.size, 1, none⟩ = some (.int .i64 b) := by rw [HKc.out.cell]; rfl
          have c2 : wc.cell? ⟨w1.heap.size, 2, none⟩ = some (.int .i64 c') := by rw [HKc.out.cell]; rfl
          have c3 : wc.cell? ⟨w1.heap.size, 3, none⟩ = some (.int .i64 d) := by rw [HKc.out.cell]; rfl
          have hq2 : IntKind.i64.wrap (q : Int) = q := IntWalk.i64_in _ (by omega)
          have HNE := Lib.hid hne; clear hne
          go_upto_region 14 with fail
          clear cB5 cBr
          go_cut [7, 8] (fun s7 s8 wx => ∃ g7 : Nat, s7 = .pointer (some ⟨g7, 0, none⟩) ∧ Hid (Bk wx g7 24 #[.int .i64 R.a, .int .i64 R.b, .int .i64 R.c, .int .i64 R.d] ∧ wc.heap.size ≤ g7 ∧ Below wc.heap.size wc wx))
          case first =>
            go_region_held3 (fun w' => w'.cell? ⟨w1.heap.size, 0, none⟩ = some (.int .i64 a) ∧ w'.cell? ⟨w1.heap.size, 1, none⟩ = some (.int .i64 b) ∧ w'.cell? ⟨w1.heap.size, 2, none⟩ = some (.int .i64 c') ∧ w'.cell? ⟨w1.heap.size, 3, none⟩ = some (.int .i64 d)) (simp [go_sem, World.cell?_alloc_past, *])
              (first | (go_at_call 20; refine (HCALL.out _ _ ?hrd).mono ?_; (case hrd => first | (refine reads_drew (HRM.out _ _ ?_); (first | rfl | (simp; done))) | (refine reads_drew (reads_alloc (HRM.out _ _ ?_) _); (first | rfl | (simp; done))) | (refine HRM.out _ _ ?_; (first | rfl | (simp; done))) | (refine reads_alloc (HRM.out _ _ ?_) _; (first | rfl | (simp; done)))); rintro e w4 ⟨rfl, hb⟩; have cB0 := keepB hb (g := w1.heap.size) (by go_size); have zB0 := keepZ hb (g := w1.heap.size) (by go_size); have cB3 := fun i h => keepB hb (g := i) h; have fB3 := fun i h => keepF hb (g := i) h; have zB3 := fun i h => keepZ hb (g := i) h))
            · go_wp2_with fail
              go_meet
              have hb2 : Below wc.heap.size wc w4 := Below.trans (Below.alloc (Below.refl wc.heap.size wc) (Nat.le_refl _) _) ((undrew hb).mono (by simp))
              have hzz := hb2.size
              clear hb
              refine ⟨w4.heap.size, rfl, Bk.new _ _ _, hzz, ?_⟩
              (repeat' (first | (with_reducible exact Below.refl _ _) | (with_reducible refine Below.alloc ?_ ?_ _) | (with_reducible refine Below.setCell ?_ ?_ _) | (with_reducible refine Below.drew ?_) | (refine Below.trans ?_ (Below.mono (by with_reducible assumption) ?_)) | go_size))
            · go_wp2_with fail
              go_meet
              have hb2 : Below wc.heap.size wc w4 := Below.trans (Below.alloc (Below.alloc (Below.refl wc.heap.size wc) (Nat.le_refl _) _) (by simp) _) ((undrew hb).mono (by simp; omega))
              refine ⟨wc.heap.size + 1, rfl, (Bk.keep (w := ((wc.alloc (.cells md 4)).alloc _).drew) (Bk.new_at (wc.alloc (.cells md 4)) _ _ (by simp)) hb).set4, by omega, ?_⟩
              clear hb
              (repeat' (first | (with_reducible exact Below.refl _ _) | (with_reducible refine Below.alloc ?_ ?_ _) | (with_reducible refine Below.setCell ?_ ?_ _) | (with_reducible refine Below.drew ?_) | (refine Below.trans ?_ (Below.mono (by with_reducible assumption) ?_)) | go_size))
            · go_wp2_with fail
              go_meet
              have hb2 : Below wc.heap.size wc w4 := Below.trans (Below.alloc (Below.alloc (Below.refl wc.heap.size wc) (Nat.le_refl _) _) (by simp) _) ((undrew hb).mono (by simp; omega))
              refine ⟨wc.heap.size, rfl, (Bk.keep (w := ((wc.alloc _).alloc (.cells md 4)).drew) ((Bk.new wc _ _).alloc _) hb).set4, Nat.le_refl _, ?_⟩
              clear hb
              (repeat' (first | (with_reducible exact Below.refl _ _) | (with_reducible refine Below.alloc ?_ ?_ _) | (with_reducible refine Below.setCell ?_ ?_ _) | (with_reducible refine Below.drew ?_) | (refine Below.trans ?_ (Below.mono (by with_reducible assumption) ?_)) | go_size))
          case rest =>
            obtain ⟨g7, rfl, HG7⟩ := hcut
            have cB7 := HG7.out.1.cell
            go_wp2_with fail
            all_goals first
              | (exfalso; apply HNE.out; refine ⟨?_, ?_, ?_, ?_⟩ <;> with_reducible assumption)
              | (go_ret; exact ⟨rfl, HBc.out.trans (HG7.out.2.2.mono HBc.out.size)⟩)
  · have hl' : (1048576 : Int) < bs.length := by omega
    go_enter Tryd.func7, Tryd.ntmps7
    go_wp2_with fail
    go_ret
    exact ⟨rfl, Below.refl _ _⟩
end Go.Proofs.YtkibkmhmlkfhfaaDoor
