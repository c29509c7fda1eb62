/- Slices of Line: copies, comparisons. -/
import Derived.Test.YtdfgdeccejcpfaaProg
import Derived.Test.YtdfgdeccejcpfaaRk
import Derived.Deep.RegionHeld3
namespace Go.Proofs.Ytdfgdeccejcpfaa
open Go.RowKit Go.ChangeShapes Go.WideShapes Go.Deep
set_option linter.unusedSimpArgs false
set_option linter.unusedVariables false
theorem toLine_any (a b c : Int) (w : World) :
    Calls Try.prog 63 #[.agg #[.int .i64 a, .int .i64 b, .int .i64 c]] w fun e w' => e = .returned (.agg #[.int .i64 a, .int .i64 b, .int .i64 c]) ∧ Below w.heap.size w w' := by
  go_enter Try.func63, Try.ntmps63
  go_wp2
  refine bodyPost_ret (v := .agg #[.int .i64 a, .int .i64 b, .int .i64 c]) (by simp [results, Try.results63, go_sem]) rfl ⟨rfl, ?_⟩
  (repeat' (first | (with_reducible exact Below.refl _ _) | (with_reducible refine Below.alloc ?_ ?_ _) | (with_reducible refine Below.setCell ?_ ?_ _) | (with_reducible refine Below.drew ?_) | (refine Below.trans ?_ (Below.mono (by with_reducible assumption) ?_)) | go_size))
set_option maxHeartbeats 1000000 in
theorem toLineS_any (A : Option Addr) (c : Nat) (xs : List R3) (w : World) (hR : Reads 3 r3C w w.heap.size A xs) (hl : xs.length ≤ 1048576) :
    Calls Try.prog 40 #[.slice A xs.length c] w (RetS 3 r3C 85 w xs) := by
  have hmk := fun W => run_mk (P := Try.prog) 28 85 (.agg (Array.replicate 3 (.int .i64 0))) 3 24 xs.length Try.underlying28 (by kernel_rfl) (by omega) (by omega) W
  have HR := Lib.hid hR; clear hR
  generalize hn : xs.length = n at hmk hl ⊢
  have HN := Lib.hid hn; clear hn
  have K0 := Lib.hid (row_made w 3 (by omega) (n * 3) 85)
  generalize hmc : madeCells (Array.replicate 3 (Value.int .i64 0)) (n * 3) = mc at K0
  have hmk2 : ∀ W, (Instr.makeSlice 28 (.int .i64 (n : Int)) (.int .i64 (n : Int))).run Try.prog W = .ok (.slice (some ⟨W.heap.size, 0, none⟩) n n) (W.alloc (.cells mc 85)) := fun W => by rw [← hmc]; exact hmk W
  clear hmk hmc
  go_enter Try.func40, Try.ntmps40
  go_wp2_with fail
  go_loopw [4] (fun t wr => ∃ i : Nat, t = .int .i64 i ∧ i ≤ n ∧ Hid (wr.rowIs w.heap.size 85 (n * 3) (fun j => if j < i * 3 then r3C (xs.getD (j / 3) ⟨0, 0, 0⟩) (j % 3) else .int .i64 0)) ∧ Hid (Below w.heap.size w wr)) (fun t _ => n - (intOf t).toNat)
  case atStart =>
    refine ⟨0, rfl, Nat.zero_le _, ?_, ?_⟩
    · unfold Hid; exact K0.out.congr (fun i _ => by simp)
    · unfold Hid; (repeat' (first | (with_reducible exact Below.refl _ _) | (with_reducible refine Below.alloc ?_ ?_ _) | (with_reducible refine Below.setCell ?_ ?_ _) | (with_reducible refine Below.drew ?_) | (refine Below.trans ?_ (Below.mono (by with_reducible assumption) ?_)) | go_size))
  case round =>
    obtain ⟨i, rfl, hi, HRow, HB⟩ := hrel
    by_cases hlt : i < n
    · have hx : i < xs.length := by rw [HN.out]; exact hlt
      obtain ⟨b, off, rfl, hb, hc0, hc1, hc2⟩ := HR.out.at3 hx
      have hc0 := (HB.out.cell (p := ⟨b, off + i * 3, none⟩) hb).trans hc0
      have hc1 := (HB.out.cell (p := ⟨b, off + i * 3 + 1, none⟩) hb).trans hc1
      have hc2 := (HB.out.cell (p := ⟨b, off + i * 3 + 2, none⟩) hb).trans hc2
      have hg : xs.getD i ⟨0, 0, 0⟩ = xs[i] := by rw [List.getD_eq_getElem?_getD, List.getElem?_eq_getElem hx]; rfl
      have HX := Lib.hid hg; clear hg
      generalize xs[i] = x at HX hc0 hc1 hc2
      have hzr := HRow.out.lt
      have hd0 : wr.cell? ⟨w.heap.size, i * 3, none⟩ = some (.int .i64 0) := by have := HRow.out.cell (i := i * 3 + 0) (by omega); simp only [show ¬ (i * 3 + 0 < i * 3) from by omega, if_false] at this; exact this
      have hd1 : wr.cell? ⟨w.heap.size, i * 3 + 1, none⟩ = some (.int .i64 0) := by have := HRow.out.cell (i := i * 3 + 1) (by omega); simp only [show ¬ (i * 3 + 1 < i * 3) from by omega, if_false] at this; exact this
      have hd2 : wr.cell? ⟨w.heap.size, i * 3 + 2, none⟩ = some (.int .i64 0) := by have := HRow.out.cell (i := i * 3 + 2) (by omega); simp only [show ¬ (i * 3 + 2 < i * 3) from by omega, if_false] at this; exact this
      have hf := HRow.out.frozen
      clear hmk2
      go_wp2_with fail; ((with_reducible refine (toLine_any _ _ _ _).mono ?_); rintro e w1 ⟨rfl, hb_1⟩); have cB0_1 := keepB hb_1 (g := w.heap.size) (by go_size); have fB0_1 := keepF hb_1 (g := w.heap.size) (by go_size); have zB0_1 := keepZ hb_1 (g := w.heap.size) (by go_size); have hz_1 := hb_1.size; (try simp only [World.size_alloc, World.size_setCell, World.size_drew] at hz_1)
      have HRow1 := Lib.hid (HRow.out.of_block (hb_1.block w.heap.size hzr))
      have HB1 : Hid (Below w.heap.size w w1) := HB.out.trans (hb_1.mono (Nat.le_of_lt hzr))
      go_wp2
      go_roundw
      case rel =>
        refine ⟨i + 1, by go_num, by omega, ?_, ?_⟩
        · unfold Hid
          refine ((((HRow1.out.set (i * 3) _).set (i * 3 + 1) _).set (i * 3 + 2) _)).congr (fun j hj => ?_)
          have hq : j / 3 = i ∨ j / 3 < i ∨ i < j / 3 := by omega
          have hxd := HX.out
          rcases hq with hq | hq | hq
          · have h3 : j < (i + 1) * 3 := by omega
            rw [if_pos h3, hq, hxd]
            have hr : j = i * 3 + 0 ∨ j = i * 3 + 1 ∨ j = i * 3 + 2 := by omega
            rcases hr with hr | hr | hr
            · subst hr
              have hm : (i * 3 + 0) % 3 = 0 := by omega
              rw [hm]
              simp [r3C]
            · subst hr
              have hm : (i * 3 + 1) % 3 = 1 := by omega
              rw [hm]
              simp [r3C]
            · subst hr
              have hm : (i * 3 + 2) % 3 = 2 := by omega
              rw [hm]
              simp [r3C]
          · have h1 : j < i * 3 := by omega
            rw [if_neg (by omega), if_neg (by omega), if_neg (by omega), if_pos h1, if_pos (by omega)]
          · rw [if_neg (by omega), if_neg (by omega), if_neg (by omega), if_neg (by omega), if_neg (by omega)]
        · unfold Hid; have hB1 := HB1.out; (repeat' (first | (with_reducible exact Below.refl _ _) | (with_reducible refine Below.alloc ?_ ?_ _) | (with_reducible refine Below.setCell ?_ ?_ _) | (with_reducible refine Below.drew ?_) | (refine Below.trans ?_ (Below.mono (by with_reducible assumption) ?_)) | go_size))
      case measure => simp [intOf]; omega
    · clear hmk2
      go_wp2
      go_ret
      have hn := HN.out
      refine ⟨_, rfl, Res.of_row (Nat.le_refl _) HRow.out hn.symm (by rw [hn]; omega) (fun j x hx q hq => ?_), HB.out⟩
      obtain ⟨hj, e⟩ := getElem?_of_lt hx
      have h1 : (j * 3 + q) / 3 = j := by omega
      have h2 : (j * 3 + q) % 3 = q := by omega
      rw [if_pos (by omega), h1, h2, List.getD_eq_getElem?_getD, hx]
      rfl
theorem eqLine_any (a b c : Int) (w : World) :
    Calls Try.prog 64 #[.agg #[.int .i64 a, .int .i64 b, .int .i64 c], .agg #[.int .i64 a, .int .i64 b, .int .i64 c]] w fun e w' => e = .returned (.bool true) ∧ Below w.heap.size w w' := by
  have e : ∀ x : Int, (x != x) = false := fun x => by simp
  go_enter Try.func64, Try.ntmps64
  go_wp2
  go_ret
  refine ⟨rfl, ?_⟩; (repeat' (first | (with_reducible exact Below.refl _ _) | (with_reducible refine Below.alloc ?_ ?_ _) | (with_reducible refine Below.setCell ?_ ?_ _) | (with_reducible refine Below.drew ?_) | (refine Below.trans ?_ (Below.mono (by with_reducible assumption) ?_)) | go_size))
set_option maxHeartbeats 1000000 in
theorem eqLineS_any (A B : Option Addr) (c d : Nat) (xs : List R3) (w : World) (hA : Reads 3 r3C w w.heap.size A xs) (hB : Reads 3 r3C w w.heap.size B xs) (hl : xs.length ≤ 1048576) :
    Calls Try.prog 43 #[.slice A xs.length c, .slice B xs.length d] w fun e w' => e = .returned (.bool true) ∧ Below w.heap.size w w' := by
  have HA := Lib.hid hA; clear hA
  have HB := Lib.hid hB; clear hB
  generalize hn : xs.length = n at hl ⊢
  have HN := Lib.hid hn; clear hn
  have hne : ((n : Int) != (n : Int)) = false := by simp
  go_enter Try.func43, Try.ntmps43
  go_wp2_with fail
  go_loopw [5] (fun t wr => ∃ i : Nat, t = .int .i64 i ∧ i ≤ n ∧ Hid (Below w.heap.size w wr)) (fun t _ => n - (intOf t).toNat)
  case atStart => exact ⟨0, rfl, Nat.zero_le _, Below.refl _ _⟩
  case round =>
    obtain ⟨i, rfl, hi, HW⟩ := hrel
    by_cases hlt : i < n
    · have hx : i < xs.length := by rw [HN.out]; exact hlt
      obtain ⟨b, off, rfl, hb, hc0, hc1, hc2⟩ := HA.out.at3 hx
      obtain ⟨b', off', rfl, hb', hd0, hd1, hd2⟩ := HB.out.at3 hx
      have hc0 := (HW.out.cell (p := ⟨b, off + i * 3, none⟩) hb).trans hc0
      have hd0 := (HW.out.cell (p := ⟨b', off' + i * 3, none⟩) hb').trans hd0
      have hc1 := (HW.out.cell (p := ⟨b, off + i * 3 + 1, none⟩) hb).trans hc1
      have hd1 := (HW.out.cell (p := ⟨b', off' + i * 3 + 1, none⟩) hb').trans hd1
      have hc2 := (HW.out.cell (p := ⟨b, off + i * 3 + 2, none⟩) hb).trans hc2
      have hd2 := (HW.out.cell (p := ⟨b', off' + i * 3 + 2, none⟩) hb').trans hd2
      generalize xs[i] = x at hc0 hd0 hc1 hd1 hc2 hd2
      have hzw := HW.out.size
      have hbw : b < wr.heap.size := Nat.lt_of_lt_of_le hb hzw
      have hbw' : b' < wr.heap.size := Nat.lt_of_lt_of_le hb' hzw
      have hi1 : (i : Int) < (n : Int) := by omega
      have hi0 : (0 : Int) ≤ (i : Int) := by omega
      go_wp2_with fail
      go_region_held3 (fun w' => w'.cell? ⟨b, off + i * 3, none⟩ = some (.int .i64 x.a) ∧ w'.cell? ⟨b, off + i * 3 + 1, none⟩ = some (.int .i64 x.b) ∧ w'.cell? ⟨b, off + i * 3 + 2, none⟩ = some (.int .i64 x.c) ∧ w'.cell? ⟨b', off' + i * 3, none⟩ = some (.int .i64 x.a) ∧ w'.cell? ⟨b', off' + i * 3 + 1, none⟩ = some (.int .i64 x.b) ∧ w'.cell? ⟨b', off' + i * 3 + 2, none⟩ = some (.int .i64 x.c)) (simp [go_sem, World.cell?_alloc_past, *])
        (first | (go_at_call 64; refine (eqLine_any _ _ _ _).mono ?_; rintro e w1 ⟨rfl, hb⟩; have cB0 := keepB hb (g := b) (by go_size); have fB0 := keepF hb (g := b) (by go_size); have zB0 := keepZ hb (g := b) (by go_size); have cB1 := keepB hb (g := b') (by go_size); have fB1 := keepF hb (g := b') (by go_size); have zB1 := keepZ hb (g := b') (by go_size); have hz := hb.size; (try simp only [World.size_alloc, World.size_setCell, World.size_drew] at hz)))
      have HX : Hid (Below wr.heap.size wr w1) := by unfold Hid; (repeat' (first | (with_reducible exact Below.refl _ _) | (with_reducible refine Below.alloc ?_ ?_ _) | (with_reducible refine Below.setCell ?_ ?_ _) | (with_reducible refine Below.drew ?_) | (refine Below.trans ?_ (Below.mono (by with_reducible assumption) ?_)) | go_size))
      go_wp2
      refine ⟨⟨i + 1, by go_num, by omega, HW.out.trans (HX.out.mono hzw)⟩, by simp [intOf]; omega⟩
    · go_wp2
      go_ret
      exact ⟨rfl, HW.out⟩
end Go.Proofs.Ytdfgdeccejcpfaa
