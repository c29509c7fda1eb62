/- For every input, laws.FnExactZoneTrips returns true, and its arguments read afterwards as before. No condition. -/
import Derived.Test.YtdfgdeccejcpfaaProg
import Derived.Test.YtdfgdeccejcpfaaMk
import Derived.Test.YtdfgdeccejcpfaaRk
import Derived.Deep.RegionHeld3
import Derived.Test.YtdfgdeccejcpfaaSlLine
import Derived.Test.YtdfgdeccejcpfaaSl1
import Derived.Test.YtdfgdeccejcpfaaZtP
import Derived.Test.YtdfgdeccejcpfaaZe
import Derived.Test.YtdfgdeccejcpfaaSq
import Derived.Test.YtdfgdeccejcpfaaRows
import Derived.Test.YtdfgdeccejcpfaaOpen
/- Slices of Bool: marks. -/
namespace Go.Proofs.Ytdfgdeccejcpfaa
open Go.RowKit Go.ChangeShapes Go.WideShapes Go.Deep
set_option linter.unusedSimpArgs false
set_option linter.unusedVariables false
set_option maxHeartbeats 1000000 in
theorem markBoolS_any (v : Value) (k0 : Int) (xs : List Bool) (w : World) (B E : Nat) (hR : Res 1 boolC 4 w B v xs) (hE : xs.length = 0 ∨ ∀ g, v.ownBlock = some g → g < E) (hl : xs.length ≤ 1048576) (hk0 : 0 ≤ k0) (hk1 : k0 ≤ 1000000000000) (M : Int) (hM : k0 + ((xs.length * 1 : Nat) : Int) = M) :
    Calls Try.prog 32 #[v, .int .i64 k0] w fun e w' => e = .returned (.int .i64 M) ∧ Mk B E w w' ∧ Res 1 boolC 4 w' B v (marks mkB 1 k0 xs.length) := by
  obtain ⟨A, cp, rfl, hown⟩ := hR.own
  clear hR
  generalize hn : xs.length = n at hl hown hM hE ⊢
  clear hn
  have hown2 : n = 0 ∨ ∃ g m f, A = some ⟨g, 0, none⟩ ∧ B ≤ g ∧ g < E ∧ w.rowIs g 4 m f ∧ n * 1 ≤ m := by
    rcases hown with hz | ⟨g, m, f, rfl, hgB, _, hrow, hm⟩
    · exact .inl hz
    · rcases hE with hz | hE
      · exact .inl hz
      · exact .inr ⟨g, m, f, rfl, hgB, hE g rfl, hrow, hm⟩
  clear hown hE
  rcases hown2 with hz | ⟨g, m, f, rfl, hgB, hgE, hrow, hm⟩
  · subst hz
    have h0 : k0 = M := by omega
    subst h0
    clear hM
    go_enter Try.func32, Try.ntmps32
    go_wp2_with fail
    go_loopw [1, 5] (fun t u wr => t = .int .i64 k0 ∧ u = .int .i64 0 ∧ Hid (wr = w)) (fun _ _ _ => 0)
    case atStart => exact ⟨rfl, rfl, rfl⟩
    case round =>
      obtain ⟨rfl, rfl, HW⟩ := hrel
      have h := HW.out
      subst h
      go_wp2
      go_ret
      exact ⟨rfl, Mk.refl _ _ _, Res.empty (by simp) rfl⟩
  · have HR0 := Lib.hid hrow; clear hrow
    have HRet := Lib.hid hM; clear hM
    go_enter Try.func32, Try.ntmps32
    go_wp2_with fail
    go_loopw [1, 5] (fun t u wr => ∃ (i : Nat), u = .int .i64 i ∧ i ≤ n ∧ t = .int .i64 (k0 + (i * 1 : Nat)) ∧ Hid (wr.rowIs g 4 m (fun j => if j < i * 1 then boolC (mkB (k0 + ((j) / 1 * 1 : Nat))) ((j) % 1) else f j)) ∧ Hid (Mk B E w wr)) (fun _ u _ => n - (intOf u).toNat)
    case atStart =>
      refine ⟨0, rfl, Nat.zero_le _, by simp, ?_, Mk.refl _ _ _⟩
      unfold Hid; exact HR0.out.congr (fun i _ => by simp)
    case round =>
      obtain ⟨i, rfl, hi, rfl, HRow, HB⟩ := hrel
      by_cases hlt : i < n
      · have hzr := HRow.out.lt
        have hfz := HRow.out.frozen
        have hi1 : (i : Int) < (n : Int) := by omega
        have hi0 : (0 : Int) ≤ (i : Int) := by omega
        have hcs : ∀ q, q < m → (wr.cell? ⟨g, q, none⟩).isSome = true := fun q hq => by rw [HRow.out.cell hq]; rfl
        obtain ⟨y0, hy0⟩ := Option.isSome_iff_exists.1 (hcs (i) (by omega))
        clear hcs
        generalize hkk : k0 + ((i * 1 : Nat) : Int) = kk
        have hkb : 0 ≤ kk ∧ kk ≤ 2000000000000 := by omega
        obtain ⟨hkb0, hkb1⟩ := hkb
        have HK := Lib.hid hkk; clear hkk
        generalize hmb : (kk % 3 == 0) = mb
        have HM := Lib.hid hmb
        go_wp2
        go_roundw
        case rel =>
          have hkk := HK.out
          refine ⟨i + 1, by go_num, by omega, by first | (go_num; done) | (go_num; omega), ?_, ?_⟩
          · unfold Hid
            refine ((HRow.out.set (i) _)).congr (fun j hj => ?_)
            have hq : j / 1 = i ∨ j / 1 < i ∨ i < j / 1 := by omega
            rcases hq with hq | hq | hq
            · rw [if_pos (show j < (i + 1) * 1 from by omega), hq, hkk]
              have hr : j = i * 1 + 0 := by omega
              rcases hr with hr
              · subst hr
                have hm2 : (i * 1 + 0) % 1 = 0 := by omega
                rw [hm2]
                simp [boolC, mkB, HM.out]
            · rw [if_neg (by omega), if_pos (show j < i * 1 from by omega), if_pos (by omega)]
            · rw [if_neg (by omega), if_neg (by omega), if_neg (by omega)]
          · unfold Hid; exact (HB.out.set (p := ⟨g, i, none⟩) hgB hgE _)
        case measure => simp [intOf]; omega
      · obtain rfl : i = n := by omega
        rw [HRet.out]
        have HX := HRow.out
        go_wp2
        go_ret
        refine ⟨rfl, HB.out, Res.of_row hgB HX (by simp) (by simpa using hm) (fun j x hx q hq => ?_)⟩
        obtain ⟨hj, rfl⟩ := marks_get hx
        have h1 : (j * 1 + q) / 1 = j := by omega
        have h2 : (j * 1 + q) % 1 = q := by omega
        have h3 : j * 1 + q < i * 1 := idx_lt hj hq
        rw [if_pos h3, h1, h2]
end Go.Proofs.Ytdfgdeccejcpfaa
/- Slices of Bus: marks. -/
namespace Go.Proofs.Ytdfgdeccejcpfaa
open Go.RowKit Go.ChangeShapes Go.WideShapes Go.Deep
set_option linter.unusedSimpArgs false
set_option linter.unusedVariables false
set_option maxHeartbeats 1000000 in
theorem markBusS_any (v : Value) (k0 : Int) (xs : List R2) (w : World) (B E : Nat) (hR : Res 2 r2C 68 w B v xs) (hE : xs.length = 0 ∨ ∀ g, v.ownBlock = some g → g < E) (hl : xs.length ≤ 1048576) (hk0 : 0 ≤ k0) (hk1 : k0 ≤ 1000000000000) (M : Int) (hM : k0 + ((xs.length * 2 : Nat) : Int) = M) :
    Calls Try.prog 33 #[v, .int .i64 k0] w fun e w' => e = .returned (.int .i64 M) ∧ Mk B E w w' ∧ Res 2 r2C 68 w' B v (marks mk2 2 k0 xs.length) := by
  obtain ⟨A, cp, rfl, hown⟩ := hR.own
  clear hR
  generalize hn : xs.length = n at hl hown hM hE ⊢
  clear hn
  have hown2 : n = 0 ∨ ∃ g m f, A = some ⟨g, 0, none⟩ ∧ B ≤ g ∧ g < E ∧ w.rowIs g 68 m f ∧ n * 2 ≤ m := by
    rcases hown with hz | ⟨g, m, f, rfl, hgB, _, hrow, hm⟩
    · exact .inl hz
    · rcases hE with hz | hE
      · exact .inl hz
      · exact .inr ⟨g, m, f, rfl, hgB, hE g rfl, hrow, hm⟩
  clear hown hE
  rcases hown2 with hz | ⟨g, m, f, rfl, hgB, hgE, hrow, hm⟩
  · subst hz
    have h0 : k0 = M := by omega
    subst h0
    clear hM
    go_enter Try.func33, Try.ntmps33
    go_wp2_with fail
    go_loopw [1, 5] (fun t u wr => t = .int .i64 k0 ∧ u = .int .i64 0 ∧ Hid (wr = w)) (fun _ _ _ => 0)
    case atStart => exact ⟨rfl, rfl, rfl⟩
    case round =>
      obtain ⟨rfl, rfl, HW⟩ := hrel
      have h := HW.out
      subst h
      go_wp2
      go_ret
      exact ⟨rfl, Mk.refl _ _ _, Res.empty (by simp) rfl⟩
  · have HR0 := Lib.hid hrow; clear hrow
    have HRet := Lib.hid hM; clear hM
    go_enter Try.func33, Try.ntmps33
    go_wp2_with fail
    go_loopw [1, 5] (fun t u wr => ∃ (i : Nat), u = .int .i64 i ∧ i ≤ n ∧ t = .int .i64 (k0 + (i * 2 : Nat)) ∧ Hid (wr.rowIs g 68 m (fun j => if j < i * 2 then r2C (mk2 (k0 + ((j) / 2 * 2 : Nat))) ((j) % 2) else f j)) ∧ Hid (Mk B E w wr)) (fun _ u _ => n - (intOf u).toNat)
    case atStart =>
      refine ⟨0, rfl, Nat.zero_le _, by simp, ?_, Mk.refl _ _ _⟩
      unfold Hid; exact HR0.out.congr (fun i _ => by simp)
    case round =>
      obtain ⟨i, rfl, hi, rfl, HRow, HB⟩ := hrel
      by_cases hlt : i < n
      · have hzr := HRow.out.lt
        have hfz := HRow.out.frozen
        have hi1 : (i : Int) < (n : Int) := by omega
        have hi0 : (0 : Int) ≤ (i : Int) := by omega
        have hcs : ∀ q, q < m → (wr.cell? ⟨g, q, none⟩).isSome = true := fun q hq => by rw [HRow.out.cell hq]; rfl
        obtain ⟨y0, hy0⟩ := Option.isSome_iff_exists.1 (hcs (i * 2) (by omega))
        obtain ⟨y1, hy1⟩ := Option.isSome_iff_exists.1 (hcs (i * 2 + 1) (by omega))
        clear hcs
        generalize hkk : k0 + ((i * 2 : Nat) : Int) = kk
        have hkb : 0 ≤ kk ∧ kk ≤ 2000000000000 := by omega
        obtain ⟨hkb0, hkb1⟩ := hkb
        have HK := Lib.hid hkk; clear hkk
        go_wp2
        go_roundw
        case rel =>
          have hkk := HK.out
          refine ⟨i + 1, by go_num, by omega, by first | (go_num; done) | (go_num; omega), ?_, ?_⟩
          · unfold Hid
            refine (((HRow.out.set (i * 2) _).set (i * 2 + 1) _)).congr (fun j hj => ?_)
            have hq : j / 2 = i ∨ j / 2 < i ∨ i < j / 2 := by omega
            rcases hq with hq | hq | hq
            · rw [if_pos (show j < (i + 1) * 2 from by omega), hq, hkk]
              have hr : j = i * 2 + 0 ∨ j = i * 2 + 1 := by omega
              rcases hr with hr | hr
              · subst hr
                have hm2 : (i * 2 + 0) % 2 = 0 := by omega
                rw [hm2]
                simp [r2C, mk2]
              · subst hr
                have hm2 : (i * 2 + 1) % 2 = 1 := by omega
                rw [hm2]
                simp [r2C, mk2]; try omega
            · rw [if_neg (by omega), if_neg (by omega), if_pos (show j < i * 2 from by omega), if_pos (by omega)]
            · rw [if_neg (by omega), if_neg (by omega), if_neg (by omega), if_neg (by omega)]
          · unfold Hid; exact ((HB.out.set (p := ⟨g, i * 2, none⟩) hgB hgE _).set (p := ⟨g, i * 2 + 1, none⟩) hgB hgE _)
        case measure => simp [intOf]; omega
      · obtain rfl : i = n := by omega
        rw [HRet.out]
        have HX := HRow.out
        go_wp2
        go_ret
        refine ⟨rfl, HB.out, Res.of_row hgB HX (by simp) (by simpa using hm) (fun j x hx q hq => ?_)⟩
        obtain ⟨hj, rfl⟩ := marks_get hx
        have h1 : (j * 2 + q) / 2 = j := by omega
        have h2 : (j * 2 + q) % 2 = q := by omega
        have h3 : j * 2 + q < i * 2 := idx_lt hj hq
        rw [if_pos h3, h1, h2]
end Go.Proofs.Ytdfgdeccejcpfaa
/- Slices of Line: marks. -/
namespace Go.Proofs.Ytdfgdeccejcpfaa
open Go.RowKit Go.ChangeShapes Go.WideShapes Go.Deep
set_option linter.unusedSimpArgs false
set_option linter.unusedVariables false
set_option maxHeartbeats 1000000 in
theorem markLineS_any (v : Value) (k0 : Int) (xs : List R3) (w : World) (B E : Nat) (hR : Res 3 r3C 85 w B v xs) (hE : xs.length = 0 ∨ ∀ g, v.ownBlock = some g → g < E) (hl : xs.length ≤ 1048576) (hk0 : 0 ≤ k0) (hk1 : k0 ≤ 1000000000000) (M : Int) (hM : k0 + ((xs.length * 3 : Nat) : Int) = M) :
    Calls Try.prog 62 #[v, .int .i64 k0] w fun e w' => e = .returned (.int .i64 M) ∧ Mk B E w w' ∧ Res 3 r3C 85 w' B v (marks mk3 3 k0 xs.length) := by
  obtain ⟨A, cp, rfl, hown⟩ := hR.own
  clear hR
  generalize hn : xs.length = n at hl hown hM hE ⊢
  clear hn
  have hown2 : n = 0 ∨ ∃ g m f, A = some ⟨g, 0, none⟩ ∧ B ≤ g ∧ g < E ∧ w.rowIs g 85 m f ∧ n * 3 ≤ m := by
    rcases hown with hz | ⟨g, m, f, rfl, hgB, _, hrow, hm⟩
    · exact .inl hz
    · rcases hE with hz | hE
      · exact .inl hz
      · exact .inr ⟨g, m, f, rfl, hgB, hE g rfl, hrow, hm⟩
  clear hown hE
  rcases hown2 with hz | ⟨g, m, f, rfl, hgB, hgE, hrow, hm⟩
  · subst hz
    have h0 : k0 = M := by omega
    subst h0
    clear hM
    go_enter Try.func62, Try.ntmps62
    go_wp2_with fail
    go_loopw [1, 5] (fun t u wr => t = .int .i64 k0 ∧ u = .int .i64 0 ∧ Hid (wr = w)) (fun _ _ _ => 0)
    case atStart => exact ⟨rfl, rfl, rfl⟩
    case round =>
      obtain ⟨rfl, rfl, HW⟩ := hrel
      have h := HW.out
      subst h
      go_wp2
      go_ret
      exact ⟨rfl, Mk.refl _ _ _, Res.empty (by simp) rfl⟩
  · have HR0 := Lib.hid hrow; clear hrow
    have HRet := Lib.hid hM; clear hM
    go_enter Try.func62, Try.ntmps62
    go_wp2_with fail
    go_loopw [1, 5] (fun t u wr => ∃ (i : Nat), u = .int .i64 i ∧ i ≤ n ∧ t = .int .i64 (k0 + (i * 3 : Nat)) ∧ Hid (wr.rowIs g 85 m (fun j => if j < i * 3 then r3C (mk3 (k0 + ((j) / 3 * 3 : Nat))) ((j) % 3) else f j)) ∧ Hid (Mk B E w wr)) (fun _ u _ => n - (intOf u).toNat)
    case atStart =>
      refine ⟨0, rfl, Nat.zero_le _, by simp, ?_, Mk.refl _ _ _⟩
      unfold Hid; exact HR0.out.congr (fun i _ => by simp)
    case round =>
      obtain ⟨i, rfl, hi, rfl, HRow, HB⟩ := hrel
      by_cases hlt : i < n
      · have hzr := HRow.out.lt
        have hfz := HRow.out.frozen
        have hi1 : (i : Int) < (n : Int) := by omega
        have hi0 : (0 : Int) ≤ (i : Int) := by omega
        have hcs : ∀ q, q < m → (wr.cell? ⟨g, q, none⟩).isSome = true := fun q hq => by rw [HRow.out.cell hq]; rfl
        obtain ⟨y0, hy0⟩ := Option.isSome_iff_exists.1 (hcs (i * 3) (by omega))
        obtain ⟨y1, hy1⟩ := Option.isSome_iff_exists.1 (hcs (i * 3 + 1) (by omega))
        obtain ⟨y2, hy2⟩ := Option.isSome_iff_exists.1 (hcs (i * 3 + 2) (by omega))
        clear hcs
        generalize hkk : k0 + ((i * 3 : Nat) : Int) = kk
        have hkb : 0 ≤ kk ∧ kk ≤ 2000000000000 := by omega
        obtain ⟨hkb0, hkb1⟩ := hkb
        have HK := Lib.hid hkk; clear hkk
        go_wp2
        go_roundw
        case rel =>
          have hkk := HK.out
          refine ⟨i + 1, by go_num, by omega, by first | (go_num; done) | (go_num; omega), ?_, ?_⟩
          · unfold Hid
            refine ((((HRow.out.set (i * 3) _).set (i * 3 + 1) _).set (i * 3 + 2) _)).congr (fun j hj => ?_)
            have hq : j / 3 = i ∨ j / 3 < i ∨ i < j / 3 := by omega
            rcases hq with hq | hq | hq
            · rw [if_pos (show j < (i + 1) * 3 from by omega), hq, hkk]
              have hr : j = i * 3 + 0 ∨ j = i * 3 + 1 ∨ j = i * 3 + 2 := by omega
              rcases hr with hr | hr | hr
              · subst hr
                have hm2 : (i * 3 + 0) % 3 = 0 := by omega
                rw [hm2]
                simp [r3C, mk3]
              · subst hr
                have hm2 : (i * 3 + 1) % 3 = 1 := by omega
                rw [hm2]
                simp [r3C, mk3]; try omega
              · subst hr
                have hm2 : (i * 3 + 2) % 3 = 2 := by omega
                rw [hm2]
                simp [r3C, mk3]; try omega
            · rw [if_neg (by omega), if_neg (by omega), if_neg (by omega), if_pos (show j < i * 3 from by omega), if_pos (by omega)]
            · rw [if_neg (by omega), if_neg (by omega), if_neg (by omega), if_neg (by omega), if_neg (by omega)]
          · unfold Hid; exact (((HB.out.set (p := ⟨g, i * 3, none⟩) hgB hgE _).set (p := ⟨g, i * 3 + 1, none⟩) hgB hgE _).set (p := ⟨g, i * 3 + 2, none⟩) hgB hgE _)
        case measure => simp [intOf]; omega
      · obtain rfl : i = n := by omega
        rw [HRet.out]
        have HX := HRow.out
        go_wp2
        go_ret
        refine ⟨rfl, HB.out, Res.of_row hgB HX (by simp) (by simpa using hm) (fun j x hx q hq => ?_)⟩
        obtain ⟨hj, rfl⟩ := marks_get hx
        have h1 : (j * 3 + q) / 3 = j := by omega
        have h2 : (j * 3 + q) % 3 = q := by omega
        have h3 : j * 3 + q < i * 3 := idx_lt hj hq
        rw [if_pos h3, h1, h2]
end Go.Proofs.Ytdfgdeccejcpfaa
/- Slices of Bus: copies, comparisons. -/
namespace Go.Proofs.Ytdfgdeccejcpfaa
open Go.RowKit Go.ChangeShapes Go.WideShapes Go.Deep
set_option linter.unusedSimpArgs false
set_option linter.unusedVariables false
theorem toBus_any (a b : Int) (w : World) :
    Calls Try.prog 47 #[.agg #[.int .i64 a, .int .i64 b]] w fun e w' => e = .returned (.agg #[.int .i64 a, .int .i64 b]) ∧ Below w.heap.size w w' := by
  go_enter Try.func47, Try.ntmps47
  go_wp2
  refine bodyPost_ret (v := .agg #[.int .i64 a, .int .i64 b]) (by simp [results, Try.results47, go_sem]) rfl ⟨rfl, ?_⟩
  (repeat' (first | (with_reducible exact Below.refl _ _) | (with_reducible refine Below.alloc ?_ ?_ _) | (with_reducible refine Below.setCell ?_ ?_ _) | (with_reducible refine Below.drew ?_) | (refine Below.trans ?_ (Below.mono (by with_reducible assumption) ?_)) | go_size))
set_option maxHeartbeats 1000000 in
theorem toBusS_any (A : Option Addr) (c : Nat) (xs : List R2) (w : World) (hR : Reads 2 r2C w w.heap.size A xs) (hl : xs.length ≤ 1048576) :
    Calls Try.prog 18 #[.slice A xs.length c] w (RetS 2 r2C 68 w xs) := by
  have hmk := fun W => run_mk (P := Try.prog) 41 68 (.agg (Array.replicate 2 (.int .i64 0))) 2 16 xs.length Try.underlying41 (by kernel_rfl) (by omega) (by omega) W
  have HR := Lib.hid hR; clear hR
  generalize hn : xs.length = n at hmk hl ⊢
  have HN := Lib.hid hn; clear hn
  have K0 := Lib.hid (row_made w 2 (by omega) (n * 2) 68)
  generalize hmc : madeCells (Array.replicate 2 (Value.int .i64 0)) (n * 2) = mc at K0
  have hmk2 : ∀ W, (Instr.makeSlice 41 (.int .i64 (n : Int)) (.int .i64 (n : Int))).run Try.prog W = .ok (.slice (some ⟨W.heap.size, 0, none⟩) n n) (W.alloc (.cells mc 68)) := fun W => by rw [← hmc]; exact hmk W
  clear hmk hmc
  go_enter Try.func18, Try.ntmps18
  go_wp2_with fail
  go_loopw [4] (fun t wr => ∃ i : Nat, t = .int .i64 i ∧ i ≤ n ∧ Hid (wr.rowIs w.heap.size 68 (n * 2) (fun j => if j < i * 2 then r2C (xs.getD (j / 2) ⟨0, 0⟩) (j % 2) else .int .i64 0)) ∧ Hid (Below w.heap.size w wr)) (fun t _ => n - (intOf t).toNat)
  case atStart =>
    refine ⟨0, rfl, Nat.zero_le _, ?_, ?_⟩
    · unfold Hid; exact K0.out.congr (fun i _ => by simp)
    · unfold Hid; (repeat' (first | (with_reducible exact Below.refl _ _) | (with_reducible refine Below.alloc ?_ ?_ _) | (with_reducible refine Below.setCell ?_ ?_ _) | (with_reducible refine Below.drew ?_) | (refine Below.trans ?_ (Below.mono (by with_reducible assumption) ?_)) | go_size))
  case round =>
    obtain ⟨i, rfl, hi, HRow, HB⟩ := hrel
    by_cases hlt : i < n
    · have hx : i < xs.length := by rw [HN.out]; exact hlt
      obtain ⟨b, off, rfl, hb, hc0, hc1⟩ := HR.out.at2 hx
      have hc0 := (HB.out.cell (p := ⟨b, off + i * 2, none⟩) hb).trans hc0
      have hc1 := (HB.out.cell (p := ⟨b, off + i * 2 + 1, none⟩) hb).trans hc1
      have hg : xs.getD i ⟨0, 0⟩ = xs[i] := by rw [List.getD_eq_getElem?_getD, List.getElem?_eq_getElem hx]; rfl
      have HX := Lib.hid hg; clear hg
      generalize xs[i] = x at HX hc0 hc1
      have hzr := HRow.out.lt
      have hd0 : wr.cell? ⟨w.heap.size, i * 2, none⟩ = some (.int .i64 0) := by have := HRow.out.cell (i := i * 2 + 0) (by omega); simp only [show ¬ (i * 2 + 0 < i * 2) from by omega, if_false] at this; exact this
      have hd1 : wr.cell? ⟨w.heap.size, i * 2 + 1, none⟩ = some (.int .i64 0) := by have := HRow.out.cell (i := i * 2 + 1) (by omega); simp only [show ¬ (i * 2 + 1 < i * 2) from by omega, if_false] at this; exact this
      have hf := HRow.out.frozen
      clear hmk2
      go_wp2_with fail; ((with_reducible refine (toBus_any _ _ _).mono ?_); rintro e w1 ⟨rfl, hb_1⟩); have cB0_1 := keepB hb_1 (g := w.heap.size) (by go_size); have fB0_1 := keepF hb_1 (g := w.heap.size) (by go_size); have zB0_1 := keepZ hb_1 (g := w.heap.size) (by go_size); have hz_1 := hb_1.size; (try simp only [World.size_alloc, World.size_setCell, World.size_drew] at hz_1)
      have HRow1 := Lib.hid (HRow.out.of_block (hb_1.block w.heap.size hzr))
      have HB1 : Hid (Below w.heap.size w w1) := HB.out.trans (hb_1.mono (Nat.le_of_lt hzr))
      go_wp2
      go_roundw
      case rel =>
        refine ⟨i + 1, by go_num, by omega, ?_, ?_⟩
        · unfold Hid
          refine (((HRow1.out.set (i * 2) _).set (i * 2 + 1) _)).congr (fun j hj => ?_)
          have hq : j / 2 = i ∨ j / 2 < i ∨ i < j / 2 := by omega
          have hxd := HX.out
          rcases hq with hq | hq | hq
          · have h3 : j < (i + 1) * 2 := by omega
            rw [if_pos h3, hq, hxd]
            have hr : j = i * 2 + 0 ∨ j = i * 2 + 1 := by omega
            rcases hr with hr | hr
            · subst hr
              have hm : (i * 2 + 0) % 2 = 0 := by omega
              rw [hm]
              simp [r2C]
            · subst hr
              have hm : (i * 2 + 1) % 2 = 1 := by omega
              rw [hm]
              simp [r2C]
          · have h1 : j < i * 2 := by omega
            rw [if_neg (by omega), if_neg (by omega), if_pos h1, if_pos (by omega)]
          · rw [if_neg (by omega), if_neg (by omega), if_neg (by omega), if_neg (by omega)]
        · unfold Hid; have hB1 := HB1.out; (repeat' (first | (with_reducible exact Below.refl _ _) | (with_reducible refine Below.alloc ?_ ?_ _) | (with_reducible refine Below.setCell ?_ ?_ _) | (with_reducible refine Below.drew ?_) | (refine Below.trans ?_ (Below.mono (by with_reducible assumption) ?_)) | go_size))
      case measure => simp [intOf]; omega
    · clear hmk2
      go_wp2
      go_ret
      have hn := HN.out
      refine ⟨_, rfl, Res.of_row (Nat.le_refl _) HRow.out hn.symm (by rw [hn]; omega) (fun j x hx q hq => ?_), HB.out⟩
      obtain ⟨hj, e⟩ := getElem?_of_lt hx
      have h1 : (j * 2 + q) / 2 = j := by omega
      have h2 : (j * 2 + q) % 2 = q := by omega
      rw [if_pos (by omega), h1, h2, List.getD_eq_getElem?_getD, hx]
      rfl
theorem eqBus_any (a b : Int) (w : World) :
    Calls Try.prog 49 #[.agg #[.int .i64 a, .int .i64 b], .agg #[.int .i64 a, .int .i64 b]] w fun e w' => e = .returned (.bool true) ∧ Below w.heap.size w w' := by
  have e : ∀ x : Int, (x != x) = false := fun x => by simp
  go_enter Try.func49, Try.ntmps49
  go_wp2
  go_ret
  refine ⟨rfl, ?_⟩; (repeat' (first | (with_reducible exact Below.refl _ _) | (with_reducible refine Below.alloc ?_ ?_ _) | (with_reducible refine Below.setCell ?_ ?_ _) | (with_reducible refine Below.drew ?_) | (refine Below.trans ?_ (Below.mono (by with_reducible assumption) ?_)) | go_size))
set_option maxHeartbeats 1000000 in
theorem eqBusS_any (A B : Option Addr) (c d : Nat) (xs : List R2) (w : World) (hA : Reads 2 r2C w w.heap.size A xs) (hB : Reads 2 r2C w w.heap.size B xs) (hl : xs.length ≤ 1048576) :
    Calls Try.prog 21 #[.slice A xs.length c, .slice B xs.length d] w fun e w' => e = .returned (.bool true) ∧ Below w.heap.size w w' := by
  have HA := Lib.hid hA; clear hA
  have HB := Lib.hid hB; clear hB
  generalize hn : xs.length = n at hl ⊢
  have HN := Lib.hid hn; clear hn
  have hne : ((n : Int) != (n : Int)) = false := by simp
  go_enter Try.func21, Try.ntmps21
  go_wp2_with fail
  go_loopw [5] (fun t wr => ∃ i : Nat, t = .int .i64 i ∧ i ≤ n ∧ Hid (Below w.heap.size w wr)) (fun t _ => n - (intOf t).toNat)
  case atStart => exact ⟨0, rfl, Nat.zero_le _, Below.refl _ _⟩
  case round =>
    obtain ⟨i, rfl, hi, HW⟩ := hrel
    by_cases hlt : i < n
    · have hx : i < xs.length := by rw [HN.out]; exact hlt
      obtain ⟨b, off, rfl, hb, hc0, hc1⟩ := HA.out.at2 hx
      obtain ⟨b', off', rfl, hb', hd0, hd1⟩ := HB.out.at2 hx
      have hc0 := (HW.out.cell (p := ⟨b, off + i * 2, none⟩) hb).trans hc0
      have hd0 := (HW.out.cell (p := ⟨b', off' + i * 2, none⟩) hb').trans hd0
      have hc1 := (HW.out.cell (p := ⟨b, off + i * 2 + 1, none⟩) hb).trans hc1
      have hd1 := (HW.out.cell (p := ⟨b', off' + i * 2 + 1, none⟩) hb').trans hd1
      generalize xs[i] = x at hc0 hd0 hc1 hd1
      have hzw := HW.out.size
      have hbw : b < wr.heap.size := Nat.lt_of_lt_of_le hb hzw
      have hbw' : b' < wr.heap.size := Nat.lt_of_lt_of_le hb' hzw
      have hi1 : (i : Int) < (n : Int) := by omega
      have hi0 : (0 : Int) ≤ (i : Int) := by omega
      go_wp2_with fail
      go_region_held3 (fun w' => w'.cell? ⟨b, off + i * 2, none⟩ = some (.int .i64 x.a) ∧ w'.cell? ⟨b, off + i * 2 + 1, none⟩ = some (.int .i64 x.b) ∧ w'.cell? ⟨b', off' + i * 2, none⟩ = some (.int .i64 x.a) ∧ w'.cell? ⟨b', off' + i * 2 + 1, none⟩ = some (.int .i64 x.b)) (simp [go_sem, World.cell?_alloc_past, *])
        (first | (go_at_call 49; refine (eqBus_any _ _ _).mono ?_; rintro e w1 ⟨rfl, hb⟩; have cB0 := keepB hb (g := b) (by go_size); have fB0 := keepF hb (g := b) (by go_size); have zB0 := keepZ hb (g := b) (by go_size); have cB1 := keepB hb (g := b') (by go_size); have fB1 := keepF hb (g := b') (by go_size); have zB1 := keepZ hb (g := b') (by go_size); have hz := hb.size; (try simp only [World.size_alloc, World.size_setCell, World.size_drew] at hz)))
      have HX : Hid (Below wr.heap.size wr w1) := by unfold Hid; (repeat' (first | (with_reducible exact Below.refl _ _) | (with_reducible refine Below.alloc ?_ ?_ _) | (with_reducible refine Below.setCell ?_ ?_ _) | (with_reducible refine Below.drew ?_) | (refine Below.trans ?_ (Below.mono (by with_reducible assumption) ?_)) | go_size))
      go_wp2
      refine ⟨⟨i + 1, by go_num, by omega, HW.out.trans (HX.out.mono hzw)⟩, by simp [intOf]; omega⟩
    · go_wp2
      go_ret
      exact ⟨rfl, HW.out⟩
end Go.Proofs.Ytdfgdeccejcpfaa
/- Networks: copies, comparisons, sizes. -/
namespace Go.Proofs.Ytdfgdeccejcpfaa
open Go.RowKit Go.Deep
set_option linter.unusedSimpArgs false
set_option linter.unusedVariables false
theorem szLineS_any (A : Option Addr) (n c : Nat) (l : Int) (w : World) (h : n ≤ 9223372036854775807) (h0 : 0 ≤ l) (h1 : l ≤ 1048576) :
    Calls Try.prog 37 #[.slice A n c, .int .i64 l] w fun e w' => e = .returned (.int .i64 (if (n : Int) ≤ l then l - n else -1)) ∧ w = w' := by
  by_cases hn : (n : Int) ≤ l
  · rw [if_pos hn]
    have h1 : ¬ (l - (n : Int)) < 0 := by omega
    go_enter Try.func37, Try.ntmps37
    go_wp2
    go_ret
    exact ⟨rfl, rfl⟩
  · rw [if_neg hn]
    have h1 : (l - (n : Int)) < 0 := by omega
    go_enter Try.func37, Try.ntmps37
    go_wp2
    go_ret
    exact ⟨rfl, rfl⟩
theorem szBusS_any (A : Option Addr) (n c : Nat) (l : Int) (w : World) (h : n ≤ 9223372036854775807) (h0 : 0 ≤ l) (h1 : l ≤ 1048576) :
    Calls Try.prog 15 #[.slice A n c, .int .i64 l] w fun e w' => e = .returned (.int .i64 (if (n : Int) ≤ l then l - n else -1)) ∧ w = w' := by
  by_cases hn : (n : Int) ≤ l
  · rw [if_pos hn]
    have h1 : ¬ (l - (n : Int)) < 0 := by omega
    go_enter Try.func15, Try.ntmps15
    go_wp2
    go_ret
    exact ⟨rfl, rfl⟩
  · rw [if_neg hn]
    have h1 : (l - (n : Int)) < 0 := by omega
    go_enter Try.func15, Try.ntmps15
    go_wp2
    go_ret
    exact ⟨rfl, rfl⟩
theorem szNet_any (B : Int) (A : Option Addr) (n c : Nat) (l : Int) (w : World) (h : n ≤ 9223372036854775807) (h0 : 0 ≤ l) (h1 : l ≤ 1048576) :
    Calls Try.prog 8 #[.agg #[.int .i64 B, .slice A n c], .int .i64 l] w fun e w' => e = .returned (.int .i64 (if (n : Int) ≤ l then l - n else -1)) ∧ Below w.heap.size w w' := by
  by_cases hn : (n : Int) ≤ l
  · have hn2 : ¬ (l - (n : Int)) < 0 := by omega
    have hc := szLineS_any A n c l (w.alloc (.cells #[.int .i64 B, .slice A n c] 24)) h h0 h1
    rw [if_pos hn] at hc ⊢
    go_enter Try.func8, Try.ntmps8
    go_wp2_with fail
    refine hc.mono ?_
    rintro e w1 ⟨rfl, rfl⟩
    go_wp2
    go_ret
    refine ⟨rfl, ?_⟩; (repeat' (first | (with_reducible exact Below.refl _ _) | (with_reducible refine Below.alloc ?_ ?_ _) | (with_reducible refine Below.setCell ?_ ?_ _) | (with_reducible refine Below.drew ?_) | (refine Below.trans ?_ (Below.mono (by with_reducible assumption) ?_)) | go_size))
  · have hc := szLineS_any A n c l (w.alloc (.cells #[.int .i64 B, .slice A n c] 24)) h h0 h1
    rw [if_neg hn] at hc ⊢
    go_enter Try.func8, Try.ntmps8
    go_wp2_with fail
    refine hc.mono ?_
    rintro e w1 ⟨rfl, rfl⟩
    go_wp2
    go_ret
    refine ⟨rfl, ?_⟩; (repeat' (first | (with_reducible exact Below.refl _ _) | (with_reducible refine Below.alloc ?_ ?_ _) | (with_reducible refine Below.setCell ?_ ?_ _) | (with_reducible refine Below.drew ?_) | (refine Below.trans ?_ (Below.mono (by with_reducible assumption) ?_)) | go_size))
/-- A call returns a network with the lines xs in memory of its own. -/
def RetNet (T : TypeId) (w : World) (B : Int) (xs : List R3) (e : Ending) (w' : World) : Prop := ∃ v, e = .returned (.agg #[.int .i64 B, v]) ∧ Res 3 r3C T w' w.heap.size v xs ∧ Below w.heap.size w w'
set_option maxHeartbeats 1000000 in
theorem toNet_any (B : Int) (A : Option Addr) (c : Nat) (xs : List R3) (w : World) (hR : Reads 3 r3C w w.heap.size A xs) (hl : xs.length ≤ 1048576) :
    Calls Try.prog 10 #[.agg #[.int .i64 B, .slice A xs.length c]] w (RetNet 85 w B xs) := by
  have HR := Lib.hid hR; clear hR
  have hrd : ∀ W, Below w.heap.size w W → Reads 3 r3C W W.heap.size A xs := fun W h => (HR.out.below h (Nat.le_refl _)).more h.size
  have HRD := Lib.hid hrd; clear hrd
  go_enter Try.func10, Try.ntmps10
  go_wp2_with fail
  refine (toLineS_any A c xs _ (HRD.out _ (by (repeat' (first | (with_reducible exact Below.refl _ _) | (with_reducible refine Below.alloc ?_ ?_ _) | (with_reducible refine Below.setCell ?_ ?_ _) | (with_reducible refine Below.drew ?_) | (refine Below.trans ?_ (Below.mono (by with_reducible assumption) ?_)) | go_size)))) hl).mono ?_
  rintro e w1 ⟨v, rfl, hr, hb⟩
  have cB0 := keepB hb (g := w.heap.size) (by go_size); have fB0 := keepF hb (g := w.heap.size) (by go_size); have zB0 := keepZ hb (g := w.heap.size) (by go_size)
  have cB1 := keepB hb (g := w.heap.size + 1) (by go_size); have fB1 := keepF hb (g := w.heap.size + 1) (by go_size); have zB1 := keepZ hb (g := w.heap.size + 1) (by go_size)
  have cB2 := keepB hb (g := w.heap.size + 1 + 1) (by go_size); have fB2 := keepF hb (g := w.heap.size + 1 + 1) (by go_size); have zB2 := keepZ hb (g := w.heap.size + 1 + 1) (by go_size)
  have hz := hb.size
  simp only [World.size_alloc, World.size_setCell, World.size_drew] at hz
  have HRR := Lib.hid hr; clear hr
  have HB := Lib.hid hb; clear hb
  obtain ⟨vA, vc, rfl, _⟩ := HRR.out
  go_wp2
  refine bodyPost_ret (v := .agg #[.int .i64 B, .slice vA xs.length vc]) (by simp [results, Try.results10, go_sem, cB1, cB2]; try rfl) rfl ?_
  refine ⟨_, rfl, ?_, ?_⟩
  · refine Res.mono (Res.kept HRR.out fun g hg hg2 => ?_) ?_
    · simp only [World.size_alloc, World.size_setCell, World.size_drew] at hg
      exact ((Below.heap_setCell _ _ _ _ (by show g ≠ w.heap.size + 1; omega)).trans (Below.heap_setCell _ _ _ _ (by show g ≠ w.heap.size + 1; omega))).trans (Below.heap_setCell _ _ _ _ (by show g ≠ w.heap.size + 1 + 1; omega))
    · simp only [World.size_alloc, World.size_setCell, World.size_drew]; omega
  · have hb := HB.out; (repeat' (first | (with_reducible exact Below.refl _ _) | (with_reducible refine Below.alloc ?_ ?_ _) | (with_reducible refine Below.setCell ?_ ?_ _) | (with_reducible refine Below.drew ?_) | (refine Below.trans ?_ (Below.mono (by with_reducible assumption) ?_)) | go_size))
set_option maxHeartbeats 1000000 in
theorem eqNet_any (B : Int) (A A' : Option Addr) (c d : Nat) (xs : List R3) (w : World) (hA : Reads 3 r3C w w.heap.size A xs) (hB : Reads 3 r3C w w.heap.size A' xs) (hl : xs.length ≤ 1048576) :
    Calls Try.prog 13 #[.agg #[.int .i64 B, .slice A xs.length c], .agg #[.int .i64 B, .slice A' xs.length d]] w fun e w' => e = .returned (.bool true) ∧ Below w.heap.size w w' := by
  have HA := Lib.hid hA; clear hA
  have HB := Lib.hid hB; clear hB
  have hrd : ∀ W, Below w.heap.size w W → Reads 3 r3C W W.heap.size A xs ∧ Reads 3 r3C W W.heap.size A' xs := fun W h => ⟨(HA.out.below h (Nat.le_refl _)).more h.size, (HB.out.below h (Nat.le_refl _)).more h.size⟩
  have HRD := Lib.hid hrd; clear hrd
  have hnn : ∀ x : Int, (x != x) = false := fun x => by simp
  go_enter Try.func13, Try.ntmps13
  go_wp2_with fail
  refine (eqLineS_any A A' c d xs _ (HRD.out _ (by (repeat' (first | (with_reducible exact Below.refl _ _) | (with_reducible refine Below.alloc ?_ ?_ _) | (with_reducible refine Below.setCell ?_ ?_ _) | (with_reducible refine Below.drew ?_) | (refine Below.trans ?_ (Below.mono (by with_reducible assumption) ?_)) | go_size)))).1 (HRD.out _ (by (repeat' (first | (with_reducible exact Below.refl _ _) | (with_reducible refine Below.alloc ?_ ?_ _) | (with_reducible refine Below.setCell ?_ ?_ _) | (with_reducible refine Below.drew ?_) | (refine Below.trans ?_ (Below.mono (by with_reducible assumption) ?_)) | go_size)))).2 hl).mono ?_
  rintro e w1 ⟨rfl, hb⟩
  go_wp2
  go_ret
  refine ⟨rfl, ?_⟩; (repeat' (first | (with_reducible exact Below.refl _ _) | (with_reducible refine Below.alloc ?_ ?_ _) | (with_reducible refine Below.setCell ?_ ?_ _) | (with_reducible refine Below.drew ?_) | (refine Below.trans ?_ (Below.mono (by with_reducible assumption) ?_)) | go_size))
end Go.Proofs.Ytdfgdeccejcpfaa
/- spec.ZoneTrips. -/
namespace Go.Proofs.Ytdfgdeccejcpfaa
open Go.RowKit Go.Deep
set_option linter.unusedSimpArgs false
set_option linter.unusedVariables false

set_option maxRecDepth 100000 in
set_option maxHeartbeats 8000000 in
theorem specZoneTrips_any (B : Int) (A A1 A2 A3 A4 : Option Addr) (c c1 c2 c3 c4 : Nat) (ls : List R3) (on : List Bool) (bs : List R2) (lk : List Int) (zss : List SV) (S : Int) (w : World) (hR : Reads 3 r3C w w.heap.size A ls) (hR1 : Reads 1 boolC w w.heap.size A1 on) (hR2 : Reads 2 r2C w w.heap.size A2 bs) (hR3 : Reads 1 intC w w.heap.size A3 lk) (hR4 : Reads 1 svC w w.heap.size A4 zss) (hz : ∀ s ∈ zss, s.xs.length ≤ 1048576 ∧ Reads 1 intC w w.heap.size s.A s.xs)
    (hl : ls.length ≤ 1048576) (hl1 : on.length ≤ 1048576) (hl2 : bs.length ≤ 1048576) (hl3 : lk.length ≤ 1048576) (hl4 : zss.length ≤ 1048576) :
    Calls Try.prog 27 #[.agg #[.int .i64 B, .slice A ls.length c], .slice A1 on.length c1, .slice A2 bs.length c2, .slice A3 lk.length c3, .slice A4 zss.length c4, .int .i64 S] w (RetS 1 intC 3 w (ztO (fun k => zdV B ls on bs lk (zAt zss k)) zss.length S)) := by
  have HDC : Hid (∀ W k (hk : k < zss.length), Below w.heap.size w W → Calls Try.prog 24 #[.agg #[.int .i64 B, .slice A ls.length c], .slice A1 on.length c1, .slice A2 bs.length c2, .slice A3 lk.length c3, .slice zss[k].A (zAt zss k).length zss[k].c] W fun e w' => e = .returned (.int .i64 (zdV B ls on bs lk (zAt zss k))) ∧ Below W.heap.size W w') := fun W k hk h => by
    have e : zAt zss k = zss[k].xs := by unfold zAt; rw [getD_lt hk]
    have hzk := hz _ (List.getElem_mem hk)
    rw [e]
    exact specZoneDiff_any B A A1 A2 A3 _ c c1 c2 c3 _ ls on bs lk _ W ((hR.below h (Nat.le_refl _)).more h.size) ((hR1.below h (Nat.le_refl _)).more h.size) ((hR2.below h (Nat.le_refl _)).more h.size) ((hR3.below h (Nat.le_refl _)).more h.size) ((hzk.2.below h (Nat.le_refl _)).more h.size) hl hl1 hl2 hl3 hzk.1
  have HRZ := Lib.hid hR4
  clear hR hR1 hR2 hR3 hR4 hz
  have HDB : Hid (∀ k, -8000 ≤ zdV B ls on bs lk (zAt zss k) ∧ zdV B ls on bs lk (zAt zss k) ≤ 8000) := fun k => zdV_bd B ls on bs lk (zAt zss k)
  obtain ⟨D, hD⟩ : ∃ D : Nat → Int, (fun k => zdV B ls on bs lk (zAt zss k)) = D := ⟨_, rfl⟩
  have hDk : ∀ k, zdV B ls on bs lk (zAt zss k) = D k := fun k => by rw [← hD]
  rw [hD]
  simp only [hDk] at HDC HDB
  clear hD hDk
  have HB0 : Hid (Below w.heap.size w (w.alloc (.cells #[.int .i64 B, .slice A ls.length c] 30))) := Below.alloc (Below.refl _ _) (Nat.le_refl _) _
  have HK0 : Hid (Bk (w.alloc (.cells #[.int .i64 B, .slice A ls.length c] 30)) w.heap.size 30 #[.int .i64 B, .slice A ls.length c]) := Bk.new _ _ _
  have HB1 : Hid (Below w.heap.size w ((w.alloc (.cells #[.int .i64 B, .slice A ls.length c] 30)).alloc (.cells #[] 3))) := HB0.out.alloc HB0.out.size _
  have HK1 := Lib.hid (HK0.out.alloc (.cells #[] 3))
  have HO1 : Hid (Own 1 intC 3 ((w.alloc (.cells #[.int .i64 B, .slice A ls.length c] 30)).alloc (.cells #[] 3)) (w.heap.size + 1) (.slice (some ⟨w.heap.size + 1, 0, none⟩) 0 0) []) := by
    have h := Own.lit (k := 1) (c := intC) (B := w.heap.size + 1) (w.alloc (.cells #[.int .i64 B, .slice A ls.length c] 30)) 3 #[] 0 [] (by simp) rfl (by omega) rfl
    simpa [Hid] using h
  go_enter Try.func27, Try.ntmps27
  go_wp2_with fail
  go_loopw [13, 14] (fun t13 t14 wr => ∃ i : Nat, t14 = .int .i64 i ∧ i ≤ zss.length ∧ Hid (0 < i → 0 ≤ S) ∧ Hid (∀ k, k < i → 0 ≤ D k) ∧ Hid (Own 1 intC 3 wr (w.heap.size + 1) t13 (idxL (fun k => decide (S < D k)) i)) ∧ Hid (Bk wr w.heap.size 30 #[.int .i64 B, .slice A ls.length c]) ∧ Hid (Below w.heap.size w wr)) (fun _ t14 _ => zss.length - (intOf t14).toNat)
  case atStart => exact ⟨0, rfl, Nat.zero_le _, fun h => by omega, fun k hk => by omega, HO1, HK1, HB1⟩
  case round =>
    obtain ⟨i, rfl, hi, HSS, HG, HV, HK, HB⟩ := hrel
    clear HK0 HB0 HK1 HB1 HO1
    obtain ⟨vA, vc, hv⟩ := HV.out.slice
    subst hv
    have hil := idxL_len (fun k => decide (S < D k)) i
    have hzw := HB.out.size
    have hzk := HK.out.lt
    by_cases hlt : i < zss.length
    · have hi1 : (i : Int) < (zss.length : Int) := by omega
      have hi0 : (0 : Int) ≤ (i : Int) := by omega
      obtain ⟨b, off, hA4, hb, hc⟩ := svReads HRZ.out hlt
      subst hA4
      have hc' := (HB.out.cell (p := ⟨b, off + i, none⟩) hb).trans hc
      have c0 : wr.cell? ⟨w.heap.size, 0, none⟩ = some (.int .i64 B) := HK.out.cell 0
      have c1' : wr.cell? ⟨w.heap.size, 1, none⟩ = some (.slice A ls.length c) := HK.out.cell 1
      have hbw : b < wr.heap.size := Nat.lt_of_lt_of_le hb HB.out.size
      have hdb := HDB.out i
      have HBd : Hid (Below w.heap.size w wr.drew) := HB.out.drew
      have HVd : Hid (Own 1 intC 3 wr.drew (w.heap.size + 1) (.slice vA (idxL (fun k => decide (S < D k)) i).length vc) (idxL (fun k => decide (S < D k)) i)) := HV.out.drew
      have HKd : Hid (Bk wr.drew w.heap.size 30 #[.int .i64 B, .slice A ls.length c]) := HK.out
      go_wp2_with fail
      go_region_held3 (fun w' => w'.cell? ⟨w.heap.size, 0, none⟩ = some (.int .i64 B) ∧ w'.cell? ⟨w.heap.size, 1, none⟩ = some (.slice A ls.length c) ∧ w'.cell? ⟨b, off + i, none⟩ = some (.slice zss[i].A (zAt zss i).length zss[i].c)) (simp [go_sem, World.cell?_alloc_past, *])
        (first | (go_at_call 24; (with_reducible refine (HDC.out _ i hlt (by with_reducible exact HBd.out)).mono ?_); rintro e w2 ⟨rfl, hb2⟩; have HV2 := Lib.hid (HVd.out.keep hb2); have HK2 := Lib.hid (HKd.out.keep hb2); have HB2 : Hid (Below w.heap.size w w2) := HBd.out.trans (hb2.mono HBd.out.size); have q0 : w2.cell? ⟨w.heap.size, 0, none⟩ = some (.int .i64 B) := HK2.out.cell 0; have q1 : w2.cell? ⟨w.heap.size, 1, none⟩ = some (.slice A ls.length c) := HK2.out.cell 1; have q2 := keepB hb2 (g := b) (by exact hbw); clear hb2))
      have hz2 := HB2.out.size
      have hzk2 := HK2.out.lt
      clear hc hc' c0 c1' HV HK HB HVd HKd HBd q0 q1 q2
      obtain ⟨d, hd⟩ : ∃ d, D i = d := ⟨_, rfl⟩
      rw [hd] at hdb ⊢
      have HD := Lib.hid hd; clear hd
      by_cases hn : d < 0
      · have HNO : Hid (ztO D zss.length S = []) := ztO_f (fun h => by have := h.2 i hlt; rw [HD.out] at this; omega)
        have hdn : decide (d < 0) = true := decide_eq_true hn
        go_wp2_with fail
        go_ret
        exact ⟨_, rfl, by rw [HNO.out]; exact (Own.lit (k := 1) (c := intC) (B := w.heap.size) w2 3 #[] 0 [] hz2 rfl (by omega) rfl).res, HB2.out.alloc hz2 _⟩
      · have hdn : decide (d < 0) = false := decide_eq_false hn
        by_cases hS : S < 0
        · have HNO : Hid (ztO D zss.length S = []) := ztO_f (fun h => by have := h.1; omega)
          go_wp2_with fail
          go_ret
          exact ⟨_, rfl, by rw [HNO.out]; exact (Own.lit (k := 1) (c := intC) (B := w.heap.size) w2 3 #[] 0 [] hz2 rfl (by omega) rfl).res, HB2.out.alloc hz2 _⟩
        · have HS2 : Hid (0 < i + 1 → 0 ≤ S) := fun _ => by omega
          have HG2 : Hid (∀ k, k < i + 1 → 0 ≤ D k) := fun k hk => by
            by_cases e : k = i
            · subst e; rw [HD.out]; omega
            · exact HG.out k (by omega)
          by_cases hs : S < d
          · have HID := Lib.hid (idxD_t (D := D) (S := S) (k := i) (by rw [HD.out]; exact hs))
            have hil2 : (idxL (fun k => decide (S < D k)) i).length ≤ 1048576 := by omega
            have hgB : w.heap.size + 1 ≤ w2.heap.size := by omega
            have HL_7 := Lib.hid (Own.lit (k := 1) (c := intC) (B := w.heap.size + 1) w2 3 #[.int .i64 i] 1 [(i : Int)] (by first | exact Nat.le_refl _ | omega) rfl (by omega) rfl); have HQ_7 := Lib.hid (HL_7.out.reads rfl).1; have HV_7 := Lib.hid (Own.alloc (HV2.out) (.cells #[.int .i64 i] 3)); have HK_7 := Lib.hid (Own.blk (HV2.out)); go_wp2_with (first | (at_builtin; refine wpList_app_g (k := 1) (c := intC) _ (by rfl) _ _ _ rfl 3 (.int .i64 0) 8 Try.underlying25 (by kernel_rfl) rfl (by decide) (by decide) intC_one _ _ _ rfl HV_7.out _ _ _ _ rfl HQ_7.out ?hm ?hlen ?hB ?_; (case hm => (first | rfl | (simp; done) | omega)); (case hlen => (simp only [List.length_cons, List.length_nil]; omega)); (case hB => ((try simp only [World.size_alloc, World.size_drew]); omega)); intro v_7 w_7 hown_7 hg_7 hat_7; have HW_7 : Hid (Below (w.heap.size + 1) (w2) w_7) := (Below.alloc (Below.refl _ _) (by first | exact Nat.le_refl _ | omega) _).grown hg_7 (by (try simp only [World.size_alloc]); omega) (fun q hq => (HK_7.out q hq).1); have HG_7 := Lib.hid hg_7; have HAT_7 := Lib.hid hat_7; have HO_7 := Lib.hid hown_7; obtain ⟨A_7, c_7, hv_7⟩ := hown_7.slice; simp only [List.length_append, List.length_cons, List.length_nil, Nat.zero_add] at hv_7; subst hv_7; have hz_7 := HG_7.out.size; (try simp only [World.size_alloc] at hz_7); clear hown_7 hg_7 hat_7 HL_7 HQ_7 HV_7))
            have HK7 := Lib.hid ((HK2.out.alloc (.cells #[.int .i64 (i : Int)] 3)).grown HG_7.out (fun e => by have := (HV2.out.blk _ e.symm).1; omega))
            have HB7 : Hid (Below w.heap.size w w_7) := HB2.out.trans (HW_7.out.mono (by omega))
            exact ⟨⟨i + 1, by go_num, by omega, HS2, HG2, by unfold Hid; rw [HID.out]; exact HO_7.out, HK7, HB7⟩, by simp [intOf]; omega⟩
          · have HID := Lib.hid (idxD_f (D := D) (S := S) (k := i) (by rw [HD.out]; exact hs))
            go_wp2_with fail
            exact ⟨⟨i + 1, by go_num, by omega, HS2, HG2, by unfold Hid; rw [HID.out]; exact HV2.out, HK2, HB2⟩, by simp [intOf]; omega⟩
    · obtain rfl : i = zss.length := by omega
      have HYES : Hid (ztO D zss.length S = idxL (fun k => decide (S < D k)) zss.length) := by
        by_cases h0 : 0 < zss.length
        · exact ztO_t ⟨HSS.out h0, HG.out⟩
        · have e : zss.length = 0 := by omega
          unfold Hid
          by_cases ho : tripOk D zss.length S
          · exact ztO_t ho
          · rw [ztO_f ho, e]; rfl
      go_wp2_with fail
      go_ret
      exact ⟨_, rfl, by rw [HYES.out]; exact (HV.out.monoT (by omega)).res, HB.out⟩
end Go.Proofs.Ytdfgdeccejcpfaa
/- Networks: marks; copies of slices of slices as arguments; the contracts of ZoneTrips for such a copy. -/
namespace Go.Proofs.Ytdfgdeccejcpfaa
open Go.RowKit Go.Deep
set_option linter.unusedSimpArgs false
set_option linter.unusedVariables false
theorem markNet_any (N : Int) (A : Option Addr) (n c : Nat) (k0 : Int) (xs : List R3) (w : World) (B E : Nat) (hR : Res 3 r3C 85 w B (.slice A n c) xs) (hE : xs.length = 0 ∨ ∀ g, (Value.slice A n c).ownBlock = some g → g < E) (hEz : E ≤ w.heap.size) (hl : xs.length ≤ 1048576) (hk0 : 0 ≤ k0) (hk1 : k0 ≤ 900000000000) (M : Int) (hM : k0 + ((xs.length * 3 : Nat) : Int) = M) :
    Calls Try.prog 31 #[.agg #[.int .i64 N, .slice A n c], .int .i64 k0] w fun e w' => e = .returned (.int .i64 M) ∧ MkG B E w w' := by
  have HC := Lib.hid (markLineS_any (.slice A n c) k0 xs (w.alloc (.cells #[.int .i64 N, .slice A n c] 30)) B E (hR.below (Below.alloc (Below.refl _ _) (Nat.le_refl _) _)) hE hl hk0 (by omega) M hM)
  have HEZ := Lib.hid hEz
  clear hR hE hEz hM
  go_enter Try.func31, Try.ntmps31
  go_wp2_with fail
  refine HC.out.mono ?_
  rintro e w1 ⟨rfl, hk, -⟩
  have HK := Lib.hid hk
  clear hk
  go_wp2
  go_ret
  refine ⟨rfl, HK.out.os, HK.out.tape, HK.out.output, ?_, fun g hg hg2 => ?_⟩
  · have := HK.out.size; simp at this; omega
  · exact (HK.out.block g hg2).trans (Below.heap_alloc w _ g hg)
theorem implZoneTrips_ss (B : Int) (A A1 A2 A3 A4 : Option Addr) (c c1 c2 c3 c4 : Nat) (ls : List R3) (on : List Bool) (bs : List R2) (lk : List Int) (zss : List SV) (S : Int) (w : World) (D E : Nat) (hR : Reads 3 r3C w w.heap.size A ls) (hR1 : Reads 1 boolC w w.heap.size A1 on) (hR2 : Reads 2 r2C w w.heap.size A2 bs) (hR3 : Reads 1 intC w w.heap.size A3 lk) (hR4 : SSOf w D E (.slice A4 zss.length c4) zss) (hz : ∀ k, (zAt zss k).length ≤ 1048576)
    (hl : ls.length ≤ 1048576) (hl1 : on.length ≤ 1048576) (hl2 : bs.length ≤ 1048576) (hl3 : lk.length ≤ 1048576) (hl4 : zss.length ≤ 1048576) (out : List Int) (ho : ztO (fun k => zdV B ls on bs lk (zAt zss k)) zss.length S = out) :
    Calls Try.prog 29 #[.agg #[.int .i64 B, .slice A ls.length c], .slice A1 on.length c1, .slice A2 bs.length c2, .slice A3 lk.length c3, .slice A4 zss.length c4, .int .i64 S] w (RetS 1 intC 3 w out) := by
  obtain ⟨-, yss, e1, e2, hr, hi⟩ := hR4.reads
  subst ho
  rw [← e1, ← e2]
  refine implZoneTrips_any B A A1 A2 A3 A4 c c1 c2 c3 c4 ls on bs lk yss S w hR hR1 hR2 hR3 hr (fun s hs => ⟨?_, hi s hs⟩) hl hl1 hl2 hl3 (by omega)
  obtain ⟨k, hk, rfl⟩ := List.mem_iff_getElem.1 hs
  have q := hz k
  rw [← e2] at q
  unfold zAt at q
  rwa [getD_lt hk] at q
theorem specZoneTrips_ss (B : Int) (A A1 A2 A3 A4 : Option Addr) (c c1 c2 c3 c4 : Nat) (ls : List R3) (on : List Bool) (bs : List R2) (lk : List Int) (zss : List SV) (S : Int) (w : World) (D E : Nat) (hR : Reads 3 r3C w w.heap.size A ls) (hR1 : Reads 1 boolC w w.heap.size A1 on) (hR2 : Reads 2 r2C w w.heap.size A2 bs) (hR3 : Reads 1 intC w w.heap.size A3 lk) (hR4 : SSOf w D E (.slice A4 zss.length c4) zss) (hz : ∀ k, (zAt zss k).length ≤ 1048576)
    (hl : ls.length ≤ 1048576) (hl1 : on.length ≤ 1048576) (hl2 : bs.length ≤ 1048576) (hl3 : lk.length ≤ 1048576) (hl4 : zss.length ≤ 1048576) (out : List Int) (ho : ztO (fun k => zdV B ls on bs lk (zAt zss k)) zss.length S = out) :
    Calls Try.prog 27 #[.agg #[.int .i64 B, .slice A ls.length c], .slice A1 on.length c1, .slice A2 bs.length c2, .slice A3 lk.length c3, .slice A4 zss.length c4, .int .i64 S] w (RetS 1 intC 3 w out) := by
  obtain ⟨-, yss, e1, e2, hr, hi⟩ := hR4.reads
  subst ho
  rw [← e1, ← e2]
  refine specZoneTrips_any B A A1 A2 A3 A4 c c1 c2 c3 c4 ls on bs lk yss S w hR hR1 hR2 hR3 hr (fun s hs => ⟨?_, hi s hs⟩) hl hl1 hl2 hl3 (by omega)
  obtain ⟨k, hk, rfl⟩ := List.mem_iff_getElem.1 hs
  have q := hz k
  rw [← e2] at q
  unfold zAt at q
  rwa [getD_lt hk] at q
end Go.Proofs.Ytdfgdeccejcpfaa
/- laws.FnExactZoneTrips: its walk: every call returns true, whatever the input. -/
namespace Go.Proofs.Ytdfgdeccejcpfaa
open Go.RowKit
set_option linter.unusedSimpArgs false
set_option linter.unusedVariables false

set_option maxRecDepth 100000 in
set_option maxHeartbeats 16000000 in
theorem fnExactZoneTrips_any (B0 : Int) (A0 : Option Addr) (n0 c0 : Nat) (xs0 : List R3) (A1 : Option Addr) (n1 c1 : Nat) (xs1 : List Bool) (A2 : Option Addr) (n2 c2 : Nat) (xs2 : List R2) (A3 : Option Addr) (n3 c3 : Nat) (xs3 : List Int) (A4 : Option Addr) (n4 c4 : Nat) (xs4 : List SV) (a5 : Int) (w : World) (hB0 : I64 B0) (hn0 : xs0.length = n0) (hg0 : ∀ x ∈ xs0, G3 x) (hnc0 : n0 ≤ c0) (hcm0 : c0 ≤ maxLen) (hR0 : Reads 3 r3C w w.heap.size A0 xs0) (hn1 : xs1.length = n1) (hg1 : ∀ x ∈ xs1, True) (hnc1 : n1 ≤ c1) (hcm1 : c1 ≤ maxLen) (hR1 : Reads 1 boolC w w.heap.size A1 xs1) (hn2 : xs2.length = n2) (hg2 : ∀ x ∈ xs2, G2 x) (hnc2 : n2 ≤ c2) (hcm2 : c2 ≤ maxLen) (hR2 : Reads 2 r2C w w.heap.size A2 xs2) (hn3 : xs3.length = n3) (hg3 : ∀ x ∈ xs3, I64 x) (hnc3 : n3 ≤ c3) (hcm3 : c3 ≤ maxLen) (hR3 : Reads 1 intC w w.heap.size A3 xs3) (hn4 : xs4.length = n4) (hg4 : ∀ x ∈ xs4, SvOk w w.heap.size x) (hnc4 : n4 ≤ c4) (hcm4 : c4 ≤ maxLen) (hR4 : Reads 1 svC w w.heap.size A4 xs4) (ha5 : I64 a5) :
    Calls Try.prog 7 #[.agg #[.int .i64 B0, .slice A0 n0 c0], .slice A1 n1 c1, .slice A2 n2 c2, .slice A3 n3 c3, .slice A4 n4 c4, .int .i64 a5] w fun e w' => e = .returned (.bool true) ∧ Below w.heap.size w w' := by
  unfold maxLen at hcm0 hcm1 hcm2 hcm3 hcm4
  have HBIG : Hid (∀ k, (zAt xs4 k).length ≤ 9223372036854775807) := fun k => by
    by_cases hk : k < xs4.length
    · have q := hg4 _ (List.getElem_mem hk)
      have q1 := q.2.1; have q2 := q.2.2.1; unfold maxLen at q2
      unfold zAt; rw [getD_lt hk]; omega
    · unfold zAt; rw [List.getD_eq_getElem?_getD, List.getElem?_eq_none (by omega)]; exact Nat.zero_le _
  have HG4 : Hid (∀ W, Below w.heap.size w W → ∀ s ∈ xs4, Reads 1 intC W W.heap.size s.A s.xs) := fun W h s hs => ((hg4 s hs).2.2.2.below h (Nat.le_refl _)).more h.size
  clear hg4
  subst hn0 hn1 hn2 hn3 hn4
  have HR0 := Lib.hid hR0; clear hR0
  have HG0 := Lib.hid hg0; clear hg0
  have HR1 := Lib.hid hR1; clear hR1
  have HG1 := Lib.hid hg1; clear hg1
  have HR2 := Lib.hid hR2; clear hR2
  have HG2 := Lib.hid hg2; clear hg2
  have HR3 := Lib.hid hR3; clear hR3
  have HG3 := Lib.hid hg3; clear hg3
  have HR4 := Lib.hid hR4; clear hR4
  have hnn : ∀ x : Int, (x != x) = false := fun x => by simp
  have hbb : ∀ x : Bool, (x != x) = false := fun x => by simp
  by_cases hl1 : xs1.length ≤ 1048576
  · have hl1' : ¬ (1048576 : Int) < xs1.length := by omega
    by_cases hl3 : xs3.length ≤ 1048576
    · have hl3' : ¬ (1048576 : Int) < xs3.length := by omega
      by_cases hs0 : (xs0.length : Int) ≤ 1048576
      · have hl0 : xs0.length ≤ 1048576 := by omega
        have hd0 : (0 : Int) ≤ 1048576 - xs0.length := by omega
        by_cases hs2 : (xs2.length : Int) ≤ 1048576 - (xs0.length : Int)
        · have hl2 : xs2.length ≤ 1048576 := by omega
          have hd2 : (0 : Int) ≤ 1048576 - (xs0.length : Int) - xs2.length := by omega
          go_enter Try.func7, Try.ntmps7
          go_wp2_with fail
          refine (szNet_any B0 A0 xs0.length c0 _ _ (by omega) (by omega) (by omega)).mono ?_
          rintro e z0 ⟨rfl, hz0⟩
          have HZ0 := Lib.hid hz0; clear hz0
          have cQ := ((Bk.new w 24 #[.int .i64 B0, .slice A0 xs0.length c0]).keep HZ0.out).cell
          rw [if_pos (by omega)]
          go_wp2_with fail
          refine (szBusS_any A2 xs2.length c2 _ _ (by omega) (by omega) (by omega)).mono ?_
          rintro e w0 ⟨rfl, rfl⟩
          rw [if_pos (by omega)]
          have HB00 : Hid (Below w.heap.size w z0) := by unfold Hid; have hz0 := HZ0.out; (repeat' (first | (with_reducible exact Below.refl _ _) | (with_reducible refine Below.alloc ?_ ?_ _) | (with_reducible refine Below.setCell ?_ ?_ _) | (with_reducible refine Below.drew ?_) | (refine Below.trans ?_ (Below.mono (by with_reducible assumption) ?_)) | go_size))
          have HPZ : Hid (Bk z0 w.heap.size 24 #[.int .i64 B0, .slice A0 xs0.length c0]) := (Bk.new _ _ _).keep HZ0.out
          go_wp2_with fail
          refine (szIntSS_any A4 c4 xs4 _ _ ((HR4.out.below HB00.out (Nat.le_refl _)).more HB00.out.size) HBIG.out (by omega) (by omega) (by omega)).mono ?_
          rintro e z1 ⟨r, rfl, hr1, hr2, hr3, hz1⟩
          have HZ1 := Lib.hid hz1; clear hz1
          have HB0 : Hid (Below w.heap.size w z1) := HB00.out.trans (HZ1.out.mono HB00.out.size)
          have HP : Hid (Bk z1 w.heap.size 24 #[.int .i64 B0, .slice A0 xs0.length c0]) := HPZ.out.keep HZ1.out
          clear cQ
          by_cases hr0 : r < 0
          · go_wp2_with fail
            go_ret
            exact ⟨rfl, HB0.out⟩
          have HLS : Hid (xs4.length + lenS xs4 xs4.length ≤ 1048576) := hr3 (by omega)
          clear hr3
          have hl4 : xs4.length ≤ 1048576 := by have := HLS.out; omega
          have HZK : Hid (∀ k, (zAt xs4 k).length ≤ 1048576) := fun k => by
            by_cases hk : k < xs4.length
            · have q1 := lenS_le (zss := xs4) hk; have q2 := HLS.out; omega
            · unfold zAt; rw [List.getD_eq_getElem?_getD, List.getElem?_eq_none (by omega)]; exact Nat.zero_le _
          have HT4 : Hid (∀ W, Below w.heap.size w W → Reads 1 svC W W.heap.size A4 xs4 ∧ ∀ s ∈ xs4, s.xs.length ≤ 1048576 ∧ Reads 1 intC W W.heap.size s.A s.xs) := fun W h => ⟨(HR4.out.below h (Nat.le_refl _)).more h.size, fun s hs => ⟨by
            obtain ⟨k, hk, rfl⟩ := List.mem_iff_getElem.1 hs
            have q := HZK.out k; unfold zAt at q; rwa [getD_lt hk] at q, HG4.out W h s hs⟩⟩
          have HOL : Hid ((ztO (fun k => zdV B0 xs0 xs1 xs2 xs3 (zAt xs4 k)) xs4.length a5).length ≤ 1048576) := Nat.le_trans (ztO_len _ _ _) hl4
          generalize hout : ztO (fun k => zdV B0 xs0 xs1 xs2 xs3 (zAt xs4 k)) xs4.length a5 = out at HOL
          have HOUT := Lib.hid hout; clear hout
          have cP := HP.out.cell
          have HLs0 : Hid (w.heap.size < z1.heap.size) := HP.out.lt
          go_wp2_with fail; ((with_reducible refine (toNet_any B0 A0 c0 xs0 _ ((HR0.out.below HB0.out (Nat.le_refl _)).more HB0.out.size) hl0).mono ?_); rintro e w1 ⟨vs0, rfl, hrs0, hb_1⟩); have hz_1 := hb_1.size; (try simp only [World.size_alloc, World.size_setCell, World.size_drew] at hz_1)
          have HB1 : Hid (Below w.heap.size w w1) := HB0.out.trans (hb_1.mono HB0.out.size)
          have HP := Lib.hid (HP.out.keep hb_1); clear cP; have cP := HP.out.cell
          clear hb_1 hz_1
          have HSs0 := Lib.hid hrs0
          obtain ⟨Bs0, ds0, rfl, -⟩ := hrs0
          have HKs0 : Hid (Below w1.heap.size w1 w1) := Below.refl _ _
          have HLs1 : Hid (w.heap.size < w1.heap.size) := HP.out.lt
          have HOs1_s0 : Hid (w1.heap.size ≤ w1.heap.size) := HKs0.out.size
          go_wp2_with fail; ((with_reducible refine (toBoolS_any A1 c1 xs1 _ ((HR1.out.below HB1.out (Nat.le_refl _)).more HB1.out.size) hl1).mono ?_); rintro e w2 ⟨vs1, rfl, hrs1, hb_2⟩); have hz_2 := hb_2.size; (try simp only [World.size_alloc, World.size_setCell, World.size_drew] at hz_2)
          have HB2 : Hid (Below w.heap.size w w2) := HB1.out.trans (hb_2.mono HB1.out.size)
          have HKs0 : Hid (Below w1.heap.size w1 w2) := HKs0.out.trans (hb_2.mono HKs0.out.size)
          have HP := Lib.hid (HP.out.keep hb_2); clear cP; have cP := HP.out.cell
          clear hb_2 hz_2
          have HSs1 := Lib.hid hrs1
          obtain ⟨Bs1, ds1, rfl, -⟩ := hrs1
          have HKs1 : Hid (Below w2.heap.size w2 w2) := Below.refl _ _
          have HLs2 : Hid (w.heap.size < w2.heap.size) := HP.out.lt
          have HOs2_s0 : Hid (w1.heap.size ≤ w2.heap.size) := HKs0.out.size
          have HOs2_s1 : Hid (w2.heap.size ≤ w2.heap.size) := HKs1.out.size
          go_wp2_with fail; ((with_reducible refine (toBusS_any A2 c2 xs2 _ ((HR2.out.below HB2.out (Nat.le_refl _)).more HB2.out.size) hl2).mono ?_); rintro e w3 ⟨vs2, rfl, hrs2, hb_3⟩); have hz_3 := hb_3.size; (try simp only [World.size_alloc, World.size_setCell, World.size_drew] at hz_3)
          have HB3 : Hid (Below w.heap.size w w3) := HB2.out.trans (hb_3.mono HB2.out.size)
          have HKs0 : Hid (Below w1.heap.size w1 w3) := HKs0.out.trans (hb_3.mono HKs0.out.size)
          have HKs1 : Hid (Below w2.heap.size w2 w3) := HKs1.out.trans (hb_3.mono HKs1.out.size)
          have HP := Lib.hid (HP.out.keep hb_3); clear cP; have cP := HP.out.cell
          clear hb_3 hz_3
          have HSs2 := Lib.hid hrs2
          obtain ⟨Bs2, ds2, rfl, -⟩ := hrs2
          have HKs2 : Hid (Below w3.heap.size w3 w3) := Below.refl _ _
          have HLs3 : Hid (w.heap.size < w3.heap.size) := HP.out.lt
          have HOs3_s0 : Hid (w1.heap.size ≤ w3.heap.size) := HKs0.out.size
          have HOs3_s1 : Hid (w2.heap.size ≤ w3.heap.size) := HKs1.out.size
          have HOs3_s2 : Hid (w3.heap.size ≤ w3.heap.size) := HKs2.out.size
          go_wp2_with fail; ((with_reducible refine (toIntS_any A3 c3 xs3 _ ((HR3.out.below HB3.out (Nat.le_refl _)).more HB3.out.size) hl3).mono ?_); rintro e w4 ⟨vs3, rfl, hrs3, hb_4⟩); have hz_4 := hb_4.size; (try simp only [World.size_alloc, World.size_setCell, World.size_drew] at hz_4)
          have HB4 : Hid (Below w.heap.size w w4) := HB3.out.trans (hb_4.mono HB3.out.size)
          have HKs0 : Hid (Below w1.heap.size w1 w4) := HKs0.out.trans (hb_4.mono HKs0.out.size)
          have HKs1 : Hid (Below w2.heap.size w2 w4) := HKs1.out.trans (hb_4.mono HKs1.out.size)
          have HKs2 : Hid (Below w3.heap.size w3 w4) := HKs2.out.trans (hb_4.mono HKs2.out.size)
          have HP := Lib.hid (HP.out.keep hb_4); clear cP; have cP := HP.out.cell
          clear hb_4 hz_4
          have HSs3 := Lib.hid hrs3
          obtain ⟨Bs3, ds3, rfl, -⟩ := hrs3
          have HKs3 : Hid (Below w4.heap.size w4 w4) := Below.refl _ _
          have HLs4 : Hid (w.heap.size < w4.heap.size) := HP.out.lt
          have HOs4_s0 : Hid (w1.heap.size ≤ w4.heap.size) := HKs0.out.size
          have HOs4_s1 : Hid (w2.heap.size ≤ w4.heap.size) := HKs1.out.size
          have HOs4_s2 : Hid (w3.heap.size ≤ w4.heap.size) := HKs2.out.size
          have HOs4_s3 : Hid (w4.heap.size ≤ w4.heap.size) := HKs3.out.size
          go_wp2_with fail; ((with_reducible refine (toIntSS_any2 A4 c4 xs4 _ (HT4.out _ HB4.out).1 (HT4.out _ HB4.out).2 hl4).mono ?_); rintro e w5 ⟨vs4, rfl, hrs4, hb_5⟩); have hz_5 := hb_5.size; (try simp only [World.size_alloc, World.size_setCell, World.size_drew] at hz_5)
          have HB5 : Hid (Below w.heap.size w w5) := HB4.out.trans (hb_5.mono HB4.out.size)
          have HKs0 : Hid (Below w1.heap.size w1 w5) := HKs0.out.trans (hb_5.mono HKs0.out.size)
          have HKs1 : Hid (Below w2.heap.size w2 w5) := HKs1.out.trans (hb_5.mono HKs1.out.size)
          have HKs2 : Hid (Below w3.heap.size w3 w5) := HKs2.out.trans (hb_5.mono HKs2.out.size)
          have HKs3 : Hid (Below w4.heap.size w4 w5) := HKs3.out.trans (hb_5.mono HKs3.out.size)
          have HP := Lib.hid (HP.out.keep hb_5); clear cP; have cP := HP.out.cell
          clear hb_5 hz_5
          have HSs4 := Lib.hid hrs4
          obtain ⟨Bs4, ds4, rfl⟩ := hrs4.form; clear hrs4
          have HKs4 : Hid (Below w5.heap.size w5 w5) := Below.refl _ _
          have HLw : Hid (w.heap.size < w5.heap.size) := HP.out.lt
          have HOw_s0 : Hid (w1.heap.size ≤ w5.heap.size) := HKs0.out.size
          have HOw_s1 : Hid (w2.heap.size ≤ w5.heap.size) := HKs1.out.size
          have HOw_s2 : Hid (w3.heap.size ≤ w5.heap.size) := HKs2.out.size
          have HOw_s3 : Hid (w4.heap.size ≤ w5.heap.size) := HKs3.out.size
          have HOw_s4 : Hid (w5.heap.size ≤ w5.heap.size) := HKs4.out.size
          go_wp2_with fail; ((with_reducible refine (specZoneTrips_ss B0 Bs0 Bs1 Bs2 Bs3 Bs4 ds0 ds1 ds2 ds3 ds4 xs0 xs1 xs2 xs3 xs4 a5 _ _ _ (HSs0.out.below HKs0.out).reads.1 (HSs1.out.below HKs1.out).reads.1 (HSs2.out.below HKs2.out).reads.1 (HSs3.out.below HKs3.out).reads.1 (HSs4.out.below HKs4.out) HZK.out hl0 hl1 hl2 hl3 hl4 out HOUT.out).mono ?_); rintro e w6 ⟨vw, rfl, hrw, hb_6⟩); have hz_6 := hb_6.size; (try simp only [World.size_alloc, World.size_setCell, World.size_drew] at hz_6)
          have HB6 : Hid (Below w.heap.size w w6) := HB5.out.trans (hb_6.mono HB5.out.size)
          have HKs0 : Hid (Below w1.heap.size w1 w6) := HKs0.out.trans (hb_6.mono HKs0.out.size)
          have HKs1 : Hid (Below w2.heap.size w2 w6) := HKs1.out.trans (hb_6.mono HKs1.out.size)
          have HKs2 : Hid (Below w3.heap.size w3 w6) := HKs2.out.trans (hb_6.mono HKs2.out.size)
          have HKs3 : Hid (Below w4.heap.size w4 w6) := HKs3.out.trans (hb_6.mono HKs3.out.size)
          have HKs4 : Hid (Below w5.heap.size w5 w6) := HKs4.out.trans (hb_6.mono HKs4.out.size)
          have HP := Lib.hid (HP.out.keep hb_6); clear cP; have cP := HP.out.cell
          clear hb_6 hz_6
          have HSw := Lib.hid hrw
          obtain ⟨Bw, dw, rfl, -⟩ := hrw
          have HKw : Hid (Below w6.heap.size w6 w6) := Below.refl _ _
          clear HSs0 HKs0 HSs1 HKs1 HSs2 HKs2 HSs3 HKs3 HSs4 HKs4
          have HLx0 : Hid (w.heap.size < w6.heap.size) := HP.out.lt
          have HOx0_w : Hid (w6.heap.size ≤ w6.heap.size) := HKw.out.size
          go_wp2_with fail; ((with_reducible refine (toNet_any B0 A0 c0 xs0 _ ((HR0.out.below HB6.out (Nat.le_refl _)).more HB6.out.size) hl0).mono ?_); rintro e w7 ⟨vx0, rfl, hrx0, hb_7⟩); have hz_7 := hb_7.size; (try simp only [World.size_alloc, World.size_setCell, World.size_drew] at hz_7)
          have HB7 : Hid (Below w.heap.size w w7) := HB6.out.trans (hb_7.mono HB6.out.size)
          have HKw : Hid (Below w6.heap.size w6 w7) := HKw.out.trans (hb_7.mono HKw.out.size)
          have HP := Lib.hid (HP.out.keep hb_7); clear cP; have cP := HP.out.cell
          clear hb_7 hz_7
          have HSx0 := Lib.hid hrx0
          obtain ⟨Bx0, dx0, rfl, -⟩ := hrx0
          have HEx0 := Lib.hid HSx0.out.top
          have HKx0 : Hid (Below w7.heap.size w7 w7) := Below.refl _ _
          have HB8 : Hid (Below w.heap.size w (w7.alloc (.cells #[.int .i64 B0, .slice Bx0 xs0.length dx0] 30))) := HB7.out.alloc HB7.out.size _
          have HKw : Hid (Below w6.heap.size w6 (w7.alloc (.cells #[.int .i64 B0, .slice Bx0 xs0.length dx0] 30))) := HKw.out.alloc HKw.out.size _
          have HKx0 : Hid (Below w7.heap.size w7 (w7.alloc (.cells #[.int .i64 B0, .slice Bx0 xs0.length dx0] 30))) := HKx0.out.alloc HKx0.out.size _
          have HP := Lib.hid (HP.out.alloc (.cells #[.int .i64 B0, .slice Bx0 xs0.length dx0] 30)); clear cP; have cP := HP.out.cell
          have HX : Hid (Bk (w7.alloc (.cells #[.int .i64 B0, .slice Bx0 xs0.length dx0] 30)) w7.heap.size 30 #[.int .i64 B0, .slice Bx0 xs0.length dx0]) := Bk.new _ _ _
          have cX := HX.out.cell
          have HLx1 : Hid (w.heap.size < (w7.alloc (.cells #[.int .i64 B0, .slice Bx0 xs0.length dx0] 30)).heap.size) := HP.out.lt
          have HOx1_w : Hid (w6.heap.size ≤ (w7.alloc (.cells #[.int .i64 B0, .slice Bx0 xs0.length dx0] 30)).heap.size) := HKw.out.size
          have HOx1_x0 : Hid (w7.heap.size ≤ (w7.alloc (.cells #[.int .i64 B0, .slice Bx0 xs0.length dx0] 30)).heap.size) := HKx0.out.size
          go_wp2_with fail; ((with_reducible refine (toBoolS_any A1 c1 xs1 _ ((HR1.out.below HB8.out (Nat.le_refl _)).more HB8.out.size) hl1).mono ?_); rintro e w9 ⟨vx1, rfl, hrx1, hb_8⟩); have hz_8 := hb_8.size; (try simp only [World.size_alloc, World.size_setCell, World.size_drew] at hz_8)
          have HB9 : Hid (Below w.heap.size w w9) := HB8.out.trans (hb_8.mono HB8.out.size)
          have HKw : Hid (Below w6.heap.size w6 w9) := HKw.out.trans (hb_8.mono HKw.out.size)
          have HKx0 : Hid (Below w7.heap.size w7 w9) := HKx0.out.trans (hb_8.mono HKx0.out.size)
          have HP := Lib.hid (HP.out.keep hb_8); clear cP; have cP := HP.out.cell
          have HX := Lib.hid (HX.out.keep hb_8); clear cX; have cX := HX.out.cell
          clear hb_8 hz_8
          have HSx1 := Lib.hid hrx1
          obtain ⟨Bx1, dx1, rfl, -⟩ := hrx1
          have HEx1 := Lib.hid HSx1.out.top
          have HKx1 : Hid (Below w9.heap.size w9 w9) := Below.refl _ _
          have HLx2 : Hid (w.heap.size < w9.heap.size) := HP.out.lt
          have HOx2_w : Hid (w6.heap.size ≤ w9.heap.size) := HKw.out.size
          have HOx2_x0 : Hid (w7.heap.size ≤ w9.heap.size) := HKx0.out.size
          have HOx2_x1 : Hid (w9.heap.size ≤ w9.heap.size) := HKx1.out.size
          go_wp2_with fail; ((with_reducible refine (toBusS_any A2 c2 xs2 _ ((HR2.out.below HB9.out (Nat.le_refl _)).more HB9.out.size) hl2).mono ?_); rintro e w10 ⟨vx2, rfl, hrx2, hb_9⟩); have hz_9 := hb_9.size; (try simp only [World.size_alloc, World.size_setCell, World.size_drew] at hz_9)
          have HB10 : Hid (Below w.heap.size w w10) := HB9.out.trans (hb_9.mono HB9.out.size)
          have HKw : Hid (Below w6.heap.size w6 w10) := HKw.out.trans (hb_9.mono HKw.out.size)
          have HKx0 : Hid (Below w7.heap.size w7 w10) := HKx0.out.trans (hb_9.mono HKx0.out.size)
          have HKx1 : Hid (Below w9.heap.size w9 w10) := HKx1.out.trans (hb_9.mono HKx1.out.size)
          have HP := Lib.hid (HP.out.keep hb_9); clear cP; have cP := HP.out.cell
          have HX := Lib.hid (HX.out.keep hb_9); clear cX; have cX := HX.out.cell
          clear hb_9 hz_9
          have HSx2 := Lib.hid hrx2
          obtain ⟨Bx2, dx2, rfl, -⟩ := hrx2
          have HEx2 := Lib.hid HSx2.out.top
          have HKx2 : Hid (Below w10.heap.size w10 w10) := Below.refl _ _
          have HLx3 : Hid (w.heap.size < w10.heap.size) := HP.out.lt
          have HOx3_w : Hid (w6.heap.size ≤ w10.heap.size) := HKw.out.size
          have HOx3_x0 : Hid (w7.heap.size ≤ w10.heap.size) := HKx0.out.size
          have HOx3_x1 : Hid (w9.heap.size ≤ w10.heap.size) := HKx1.out.size
          have HOx3_x2 : Hid (w10.heap.size ≤ w10.heap.size) := HKx2.out.size
          go_wp2_with fail; ((with_reducible refine (toIntS_any A3 c3 xs3 _ ((HR3.out.below HB10.out (Nat.le_refl _)).more HB10.out.size) hl3).mono ?_); rintro e w11 ⟨vx3, rfl, hrx3, hb_10⟩); have hz_10 := hb_10.size; (try simp only [World.size_alloc, World.size_setCell, World.size_drew] at hz_10)
          have HB11 : Hid (Below w.heap.size w w11) := HB10.out.trans (hb_10.mono HB10.out.size)
          have HKw : Hid (Below w6.heap.size w6 w11) := HKw.out.trans (hb_10.mono HKw.out.size)
          have HKx0 : Hid (Below w7.heap.size w7 w11) := HKx0.out.trans (hb_10.mono HKx0.out.size)
          have HKx1 : Hid (Below w9.heap.size w9 w11) := HKx1.out.trans (hb_10.mono HKx1.out.size)
          have HKx2 : Hid (Below w10.heap.size w10 w11) := HKx2.out.trans (hb_10.mono HKx2.out.size)
          have HP := Lib.hid (HP.out.keep hb_10); clear cP; have cP := HP.out.cell
          have HX := Lib.hid (HX.out.keep hb_10); clear cX; have cX := HX.out.cell
          clear hb_10 hz_10
          have HSx3 := Lib.hid hrx3
          obtain ⟨Bx3, dx3, rfl, -⟩ := hrx3
          have HEx3 := Lib.hid HSx3.out.top
          have HKx3 : Hid (Below w11.heap.size w11 w11) := Below.refl _ _
          have HLx4 : Hid (w.heap.size < w11.heap.size) := HP.out.lt
          have HOx4_w : Hid (w6.heap.size ≤ w11.heap.size) := HKw.out.size
          have HOx4_x0 : Hid (w7.heap.size ≤ w11.heap.size) := HKx0.out.size
          have HOx4_x1 : Hid (w9.heap.size ≤ w11.heap.size) := HKx1.out.size
          have HOx4_x2 : Hid (w10.heap.size ≤ w11.heap.size) := HKx2.out.size
          have HOx4_x3 : Hid (w11.heap.size ≤ w11.heap.size) := HKx3.out.size
          go_wp2_with fail; ((with_reducible refine (toIntSS_any2 A4 c4 xs4 _ (HT4.out _ HB11.out).1 (HT4.out _ HB11.out).2 hl4).mono ?_); rintro e w12 ⟨vx4, rfl, hrx4, hb_11⟩); have hz_11 := hb_11.size; (try simp only [World.size_alloc, World.size_setCell, World.size_drew] at hz_11)
          have HB12 : Hid (Below w.heap.size w w12) := HB11.out.trans (hb_11.mono HB11.out.size)
          have HKw : Hid (Below w6.heap.size w6 w12) := HKw.out.trans (hb_11.mono HKw.out.size)
          have HKx0 : Hid (Below w7.heap.size w7 w12) := HKx0.out.trans (hb_11.mono HKx0.out.size)
          have HKx1 : Hid (Below w9.heap.size w9 w12) := HKx1.out.trans (hb_11.mono HKx1.out.size)
          have HKx2 : Hid (Below w10.heap.size w10 w12) := HKx2.out.trans (hb_11.mono HKx2.out.size)
          have HKx3 : Hid (Below w11.heap.size w11 w12) := HKx3.out.trans (hb_11.mono HKx3.out.size)
          have HP := Lib.hid (HP.out.keep hb_11); clear cP; have cP := HP.out.cell
          have HX := Lib.hid (HX.out.keep hb_11); clear cX; have cX := HX.out.cell
          clear hb_11 hz_11
          have HSx4 := Lib.hid hrx4
          obtain ⟨Bx4, dx4, rfl⟩ := hrx4.form; clear hrx4
          have HKx4 : Hid (Below w12.heap.size w12 w12) := Below.refl _ _
          have HLg : Hid (w.heap.size < w12.heap.size) := HP.out.lt
          have HOg_w : Hid (w6.heap.size ≤ w12.heap.size) := HKw.out.size
          have HOg_x0 : Hid (w7.heap.size ≤ w12.heap.size) := HKx0.out.size
          have HOg_x1 : Hid (w9.heap.size ≤ w12.heap.size) := HKx1.out.size
          have HOg_x2 : Hid (w10.heap.size ≤ w12.heap.size) := HKx2.out.size
          have HOg_x3 : Hid (w11.heap.size ≤ w12.heap.size) := HKx3.out.size
          have HOg_x4 : Hid (w12.heap.size ≤ w12.heap.size) := HKx4.out.size
          go_wp2_with fail; ((with_reducible refine (implZoneTrips_ss B0 Bx0 Bx1 Bx2 Bx3 Bx4 dx0 dx1 dx2 dx3 dx4 xs0 xs1 xs2 xs3 xs4 a5 _ _ _ (HSx0.out.below HKx0.out).reads.1 (HSx1.out.below HKx1.out).reads.1 (HSx2.out.below HKx2.out).reads.1 (HSx3.out.below HKx3.out).reads.1 (HSx4.out.below HKx4.out) HZK.out hl0 hl1 hl2 hl3 hl4 out HOUT.out).mono ?_); rintro e w13 ⟨vg, rfl, hrg, hb_12⟩); have hz_12 := hb_12.size; (try simp only [World.size_alloc, World.size_setCell, World.size_drew] at hz_12)
          have HB13 : Hid (Below w.heap.size w w13) := HB12.out.trans (hb_12.mono HB12.out.size)
          have HKw : Hid (Below w6.heap.size w6 w13) := HKw.out.trans (hb_12.mono HKw.out.size)
          have HKx0 : Hid (Below w7.heap.size w7 w13) := HKx0.out.trans (hb_12.mono HKx0.out.size)
          have HKx1 : Hid (Below w9.heap.size w9 w13) := HKx1.out.trans (hb_12.mono HKx1.out.size)
          have HKx2 : Hid (Below w10.heap.size w10 w13) := HKx2.out.trans (hb_12.mono HKx2.out.size)
          have HKx3 : Hid (Below w11.heap.size w11 w13) := HKx3.out.trans (hb_12.mono HKx3.out.size)
          have HKx4 : Hid (Below w12.heap.size w12 w13) := HKx4.out.trans (hb_12.mono HKx4.out.size)
          have HP := Lib.hid (HP.out.keep hb_12); clear cP; have cP := HP.out.cell
          have HX := Lib.hid (HX.out.keep hb_12); clear cX; have cX := HX.out.cell
          clear hb_12 hz_12
          have HSg := Lib.hid hrg
          obtain ⟨Bg, dg, rfl, -⟩ := hrg
          have HEg := Lib.hid HSg.out.top
          have HKg : Hid (Below w13.heap.size w13 w13) := Below.refl _ _
          go_wp2_with fail; ((with_reducible refine (eqIntS_any Bg Bw dg dw out w13 (HSg.out.below HKg.out).reads.1 (HSw.out.below HKw.out).reads.1 HOL.out).mono ?_); rintro e w14 ⟨rfl, hb_13⟩); have hz_13 := hb_13.size; (try simp only [World.size_alloc, World.size_setCell, World.size_drew] at hz_13)
          have HB14 : Hid (Below w.heap.size w w14) := HB13.out.trans (hb_13.mono HB13.out.size)
          have HKw : Hid (Below w6.heap.size w6 w14) := HKw.out.trans (hb_13.mono HKw.out.size)
          have HKx0 : Hid (Below w7.heap.size w7 w14) := HKx0.out.trans (hb_13.mono HKx0.out.size)
          have HKx1 : Hid (Below w9.heap.size w9 w14) := HKx1.out.trans (hb_13.mono HKx1.out.size)
          have HKx2 : Hid (Below w10.heap.size w10 w14) := HKx2.out.trans (hb_13.mono HKx2.out.size)
          have HKx3 : Hid (Below w11.heap.size w11 w14) := HKx3.out.trans (hb_13.mono HKx3.out.size)
          have HKx4 : Hid (Below w12.heap.size w12 w14) := HKx4.out.trans (hb_13.mono HKx4.out.size)
          have HKg : Hid (Below w13.heap.size w13 w14) := HKg.out.trans (hb_13.mono HKg.out.size)
          have HP := Lib.hid (HP.out.keep hb_13); clear cP; have cP := HP.out.cell
          have HX := Lib.hid (HX.out.keep hb_13); clear cX; have cX := HX.out.cell
          clear hb_13 hz_13
          have HZP := Lib.hid HP.out.lt; have zP := HZP.out; have zX := HX.out.lt
          have hrd : Reads 3 r3C w14.drew w14.drew.heap.size A0 xs0 := (HR0.out.below HB14.out (Nat.le_refl _)).more HB14.out.size
          have HRD := Lib.hid hrd; clear hrd
          have hsd := (HSx0.out.below HKx0.out)
          have HSD : Hid (Res 3 r3C 85 w14.drew w6.heap.size (.slice Bx0 xs0.length dx0) xs0) := hsd
          clear hsd
          go_upto_region 24 with fail
          go_region_held3 (fun w' => w'.cell? ⟨w.heap.size, 0, none⟩ = some (.int .i64 B0) ∧ w'.cell? ⟨w.heap.size, 1, none⟩ = some (.slice A0 xs0.length c0) ∧ w'.cell? ⟨w7.heap.size, 0, none⟩ = some (.int .i64 B0) ∧ w'.cell? ⟨w7.heap.size, 1, none⟩ = some (.slice Bx0 xs0.length dx0)) (simp [go_sem, World.cell?_alloc_past, *])
            (first | (go_at_call 10; (with_reducible refine (toNet_any B0 A0 c0 xs0 _ (by exact HRD.out) hl0).mono ?_); rintro e wa ⟨va, rfl, hra, hba⟩; have HRA := Lib.hid hra; have HBA := Lib.hid hba; have HSE := Lib.hid (HSD.out.below hba); have cB0 := keepB hba (g := w.heap.size) zP; have cB1 := keepB hba (g := w7.heap.size) zX; have zA := keepZ hba (g := w.heap.size) zP; have zE := keepZ hba (g := w7.heap.size) zX; obtain ⟨Ba, da, rfl, -⟩ := hra; clear hba) | (go_at_call 13; (with_reducible refine (eqNet_any B0 Bx0 Ba dx0 da xs0 _ (by exact HSE.out.reads.1) (by exact HRA.out.reads.1) hl0).mono ?_); rintro e wb ⟨rfl, hbb⟩; have HBB := Lib.hid hbb; have cD0 := keepB hbb (g := w.heap.size) zA; have cD1 := keepB hbb (g := w7.heap.size) zE; clear hbb))
          have HBD : Hid (Below w14.heap.size w14 wb) := undrew (HBA.out.trans (HBB.out.mono HBA.out.size))
          have HB15 : Hid (Below w.heap.size w wb) := HB14.out.trans (HBD.out.mono HB14.out.size)
          have HKw : Hid (Below w6.heap.size w6 wb) := HKw.out.trans (HBD.out.mono HKw.out.size)
          have HKx0 : Hid (Below w7.heap.size w7 wb) := HKx0.out.trans (HBD.out.mono HKx0.out.size)
          have HKx1 : Hid (Below w9.heap.size w9 wb) := HKx1.out.trans (HBD.out.mono HKx1.out.size)
          have HKx2 : Hid (Below w10.heap.size w10 wb) := HKx2.out.trans (HBD.out.mono HKx2.out.size)
          have HKx3 : Hid (Below w11.heap.size w11 wb) := HKx3.out.trans (HBD.out.mono HKx3.out.size)
          have HKx4 : Hid (Below w12.heap.size w12 wb) := HKx4.out.trans (HBD.out.mono HKx4.out.size)
          have HKg : Hid (Below w13.heap.size w13 wb) := HKg.out.trans (HBD.out.mono HKg.out.size)
          have HP := Lib.hid (HP.out.keep HBD.out); clear cP; have cP := HP.out.cell
          have HX := Lib.hid (HX.out.keep HBD.out); clear cX; have cX := HX.out.cell
          clear HZP zP zX HRD HSD HRA HBA HSE HBB HBD cB0 cB1 zA zE cD0 cD1
          have HLy1 : Hid (w.heap.size < wb.heap.size) := HP.out.lt
          have HOy1_w : Hid (w6.heap.size ≤ wb.heap.size) := HKw.out.size
          have HOy1_x0 : Hid (w7.heap.size ≤ wb.heap.size) := HKx0.out.size
          have HOy1_x1 : Hid (w9.heap.size ≤ wb.heap.size) := HKx1.out.size
          have HOy1_x2 : Hid (w10.heap.size ≤ wb.heap.size) := HKx2.out.size
          have HOy1_x3 : Hid (w11.heap.size ≤ wb.heap.size) := HKx3.out.size
          have HOy1_x4 : Hid (w12.heap.size ≤ wb.heap.size) := HKx4.out.size
          have HOy1_g : Hid (w13.heap.size ≤ wb.heap.size) := HKg.out.size
          go_wp2_with fail; ((with_reducible refine (toBoolS_any A1 c1 xs1 _ ((HR1.out.below HB15.out (Nat.le_refl _)).more HB15.out.size) hl1).mono ?_); rintro e w16 ⟨vy1, rfl, hry1, hb_14⟩); have hz_14 := hb_14.size; (try simp only [World.size_alloc, World.size_setCell, World.size_drew] at hz_14)
          have HB16 : Hid (Below w.heap.size w w16) := HB15.out.trans (hb_14.mono HB15.out.size)
          have HKw : Hid (Below w6.heap.size w6 w16) := HKw.out.trans (hb_14.mono HKw.out.size)
          have HKx0 : Hid (Below w7.heap.size w7 w16) := HKx0.out.trans (hb_14.mono HKx0.out.size)
          have HKx1 : Hid (Below w9.heap.size w9 w16) := HKx1.out.trans (hb_14.mono HKx1.out.size)
          have HKx2 : Hid (Below w10.heap.size w10 w16) := HKx2.out.trans (hb_14.mono HKx2.out.size)
          have HKx3 : Hid (Below w11.heap.size w11 w16) := HKx3.out.trans (hb_14.mono HKx3.out.size)
          have HKx4 : Hid (Below w12.heap.size w12 w16) := HKx4.out.trans (hb_14.mono HKx4.out.size)
          have HKg : Hid (Below w13.heap.size w13 w16) := HKg.out.trans (hb_14.mono HKg.out.size)
          have HP := Lib.hid (HP.out.keep hb_14); clear cP; have cP := HP.out.cell
          have HX := Lib.hid (HX.out.keep hb_14); clear cX; have cX := HX.out.cell
          clear hb_14 hz_14
          have HSy1 := Lib.hid hry1
          obtain ⟨By1, dy1, rfl, -⟩ := hry1
          have HKy1 : Hid (Below w16.heap.size w16 w16) := Below.refl _ _
          go_wp2_with fail; ((with_reducible refine (eqBoolS_any Bx1 By1 dx1 dy1 xs1 w16 (HSx1.out.below HKx1.out).reads.1 (HSy1.out.below HKy1.out).reads.1 hl1).mono ?_); rintro e w17 ⟨rfl, hb_15⟩); have hz_15 := hb_15.size; (try simp only [World.size_alloc, World.size_setCell, World.size_drew] at hz_15)
          have HB17 : Hid (Below w.heap.size w w17) := HB16.out.trans (hb_15.mono HB16.out.size)
          have HKw : Hid (Below w6.heap.size w6 w17) := HKw.out.trans (hb_15.mono HKw.out.size)
          have HKx0 : Hid (Below w7.heap.size w7 w17) := HKx0.out.trans (hb_15.mono HKx0.out.size)
          have HKx1 : Hid (Below w9.heap.size w9 w17) := HKx1.out.trans (hb_15.mono HKx1.out.size)
          have HKx2 : Hid (Below w10.heap.size w10 w17) := HKx2.out.trans (hb_15.mono HKx2.out.size)
          have HKx3 : Hid (Below w11.heap.size w11 w17) := HKx3.out.trans (hb_15.mono HKx3.out.size)
          have HKx4 : Hid (Below w12.heap.size w12 w17) := HKx4.out.trans (hb_15.mono HKx4.out.size)
          have HKg : Hid (Below w13.heap.size w13 w17) := HKg.out.trans (hb_15.mono HKg.out.size)
          have HKy1 : Hid (Below w16.heap.size w16 w17) := HKy1.out.trans (hb_15.mono HKy1.out.size)
          have HP := Lib.hid (HP.out.keep hb_15); clear cP; have cP := HP.out.cell
          have HX := Lib.hid (HX.out.keep hb_15); clear cX; have cX := HX.out.cell
          clear hb_15 hz_15
          clear HSy1 HKy1
          have HLy2 : Hid (w.heap.size < w17.heap.size) := HP.out.lt
          have HOy2_w : Hid (w6.heap.size ≤ w17.heap.size) := HKw.out.size
          have HOy2_x0 : Hid (w7.heap.size ≤ w17.heap.size) := HKx0.out.size
          have HOy2_x1 : Hid (w9.heap.size ≤ w17.heap.size) := HKx1.out.size
          have HOy2_x2 : Hid (w10.heap.size ≤ w17.heap.size) := HKx2.out.size
          have HOy2_x3 : Hid (w11.heap.size ≤ w17.heap.size) := HKx3.out.size
          have HOy2_x4 : Hid (w12.heap.size ≤ w17.heap.size) := HKx4.out.size
          have HOy2_g : Hid (w13.heap.size ≤ w17.heap.size) := HKg.out.size
          go_wp2_with fail; ((with_reducible refine (toBusS_any A2 c2 xs2 _ ((HR2.out.below HB17.out (Nat.le_refl _)).more HB17.out.size) hl2).mono ?_); rintro e w18 ⟨vy2, rfl, hry2, hb_16⟩); have hz_16 := hb_16.size; (try simp only [World.size_alloc, World.size_setCell, World.size_drew] at hz_16)
          have HB18 : Hid (Below w.heap.size w w18) := HB17.out.trans (hb_16.mono HB17.out.size)
          have HKw : Hid (Below w6.heap.size w6 w18) := HKw.out.trans (hb_16.mono HKw.out.size)
          have HKx0 : Hid (Below w7.heap.size w7 w18) := HKx0.out.trans (hb_16.mono HKx0.out.size)
          have HKx1 : Hid (Below w9.heap.size w9 w18) := HKx1.out.trans (hb_16.mono HKx1.out.size)
          have HKx2 : Hid (Below w10.heap.size w10 w18) := HKx2.out.trans (hb_16.mono HKx2.out.size)
          have HKx3 : Hid (Below w11.heap.size w11 w18) := HKx3.out.trans (hb_16.mono HKx3.out.size)
          have HKx4 : Hid (Below w12.heap.size w12 w18) := HKx4.out.trans (hb_16.mono HKx4.out.size)
          have HKg : Hid (Below w13.heap.size w13 w18) := HKg.out.trans (hb_16.mono HKg.out.size)
          have HP := Lib.hid (HP.out.keep hb_16); clear cP; have cP := HP.out.cell
          have HX := Lib.hid (HX.out.keep hb_16); clear cX; have cX := HX.out.cell
          clear hb_16 hz_16
          have HSy2 := Lib.hid hry2
          obtain ⟨By2, dy2, rfl, -⟩ := hry2
          have HKy2 : Hid (Below w18.heap.size w18 w18) := Below.refl _ _
          go_wp2_with fail; ((with_reducible refine (eqBusS_any Bx2 By2 dx2 dy2 xs2 w18 (HSx2.out.below HKx2.out).reads.1 (HSy2.out.below HKy2.out).reads.1 hl2).mono ?_); rintro e w19 ⟨rfl, hb_17⟩); have hz_17 := hb_17.size; (try simp only [World.size_alloc, World.size_setCell, World.size_drew] at hz_17)
          have HB19 : Hid (Below w.heap.size w w19) := HB18.out.trans (hb_17.mono HB18.out.size)
          have HKw : Hid (Below w6.heap.size w6 w19) := HKw.out.trans (hb_17.mono HKw.out.size)
          have HKx0 : Hid (Below w7.heap.size w7 w19) := HKx0.out.trans (hb_17.mono HKx0.out.size)
          have HKx1 : Hid (Below w9.heap.size w9 w19) := HKx1.out.trans (hb_17.mono HKx1.out.size)
          have HKx2 : Hid (Below w10.heap.size w10 w19) := HKx2.out.trans (hb_17.mono HKx2.out.size)
          have HKx3 : Hid (Below w11.heap.size w11 w19) := HKx3.out.trans (hb_17.mono HKx3.out.size)
          have HKx4 : Hid (Below w12.heap.size w12 w19) := HKx4.out.trans (hb_17.mono HKx4.out.size)
          have HKg : Hid (Below w13.heap.size w13 w19) := HKg.out.trans (hb_17.mono HKg.out.size)
          have HKy2 : Hid (Below w18.heap.size w18 w19) := HKy2.out.trans (hb_17.mono HKy2.out.size)
          have HP := Lib.hid (HP.out.keep hb_17); clear cP; have cP := HP.out.cell
          have HX := Lib.hid (HX.out.keep hb_17); clear cX; have cX := HX.out.cell
          clear hb_17 hz_17
          clear HSy2 HKy2
          have HLy3 : Hid (w.heap.size < w19.heap.size) := HP.out.lt
          have HOy3_w : Hid (w6.heap.size ≤ w19.heap.size) := HKw.out.size
          have HOy3_x0 : Hid (w7.heap.size ≤ w19.heap.size) := HKx0.out.size
          have HOy3_x1 : Hid (w9.heap.size ≤ w19.heap.size) := HKx1.out.size
          have HOy3_x2 : Hid (w10.heap.size ≤ w19.heap.size) := HKx2.out.size
          have HOy3_x3 : Hid (w11.heap.size ≤ w19.heap.size) := HKx3.out.size
          have HOy3_x4 : Hid (w12.heap.size ≤ w19.heap.size) := HKx4.out.size
          have HOy3_g : Hid (w13.heap.size ≤ w19.heap.size) := HKg.out.size
          go_wp2_with fail; ((with_reducible refine (toIntS_any A3 c3 xs3 _ ((HR3.out.below HB19.out (Nat.le_refl _)).more HB19.out.size) hl3).mono ?_); rintro e w20 ⟨vy3, rfl, hry3, hb_18⟩); have hz_18 := hb_18.size; (try simp only [World.size_alloc, World.size_setCell, World.size_drew] at hz_18)
          have HB20 : Hid (Below w.heap.size w w20) := HB19.out.trans (hb_18.mono HB19.out.size)
          have HKw : Hid (Below w6.heap.size w6 w20) := HKw.out.trans (hb_18.mono HKw.out.size)
          have HKx0 : Hid (Below w7.heap.size w7 w20) := HKx0.out.trans (hb_18.mono HKx0.out.size)
          have HKx1 : Hid (Below w9.heap.size w9 w20) := HKx1.out.trans (hb_18.mono HKx1.out.size)
          have HKx2 : Hid (Below w10.heap.size w10 w20) := HKx2.out.trans (hb_18.mono HKx2.out.size)
          have HKx3 : Hid (Below w11.heap.size w11 w20) := HKx3.out.trans (hb_18.mono HKx3.out.size)
          have HKx4 : Hid (Below w12.heap.size w12 w20) := HKx4.out.trans (hb_18.mono HKx4.out.size)
          have HKg : Hid (Below w13.heap.size w13 w20) := HKg.out.trans (hb_18.mono HKg.out.size)
          have HP := Lib.hid (HP.out.keep hb_18); clear cP; have cP := HP.out.cell
          have HX := Lib.hid (HX.out.keep hb_18); clear cX; have cX := HX.out.cell
          clear hb_18 hz_18
          have HSy3 := Lib.hid hry3
          obtain ⟨By3, dy3, rfl, -⟩ := hry3
          have HKy3 : Hid (Below w20.heap.size w20 w20) := Below.refl _ _
          go_wp2_with fail; ((with_reducible refine (eqIntS_any Bx3 By3 dx3 dy3 xs3 w20 (HSx3.out.below HKx3.out).reads.1 (HSy3.out.below HKy3.out).reads.1 hl3).mono ?_); rintro e w21 ⟨rfl, hb_19⟩); have hz_19 := hb_19.size; (try simp only [World.size_alloc, World.size_setCell, World.size_drew] at hz_19)
          have HB21 : Hid (Below w.heap.size w w21) := HB20.out.trans (hb_19.mono HB20.out.size)
          have HKw : Hid (Below w6.heap.size w6 w21) := HKw.out.trans (hb_19.mono HKw.out.size)
          have HKx0 : Hid (Below w7.heap.size w7 w21) := HKx0.out.trans (hb_19.mono HKx0.out.size)
          have HKx1 : Hid (Below w9.heap.size w9 w21) := HKx1.out.trans (hb_19.mono HKx1.out.size)
          have HKx2 : Hid (Below w10.heap.size w10 w21) := HKx2.out.trans (hb_19.mono HKx2.out.size)
          have HKx3 : Hid (Below w11.heap.size w11 w21) := HKx3.out.trans (hb_19.mono HKx3.out.size)
          have HKx4 : Hid (Below w12.heap.size w12 w21) := HKx4.out.trans (hb_19.mono HKx4.out.size)
          have HKg : Hid (Below w13.heap.size w13 w21) := HKg.out.trans (hb_19.mono HKg.out.size)
          have HKy3 : Hid (Below w20.heap.size w20 w21) := HKy3.out.trans (hb_19.mono HKy3.out.size)
          have HP := Lib.hid (HP.out.keep hb_19); clear cP; have cP := HP.out.cell
          have HX := Lib.hid (HX.out.keep hb_19); clear cX; have cX := HX.out.cell
          clear hb_19 hz_19
          clear HSy3 HKy3
          have HLy4 : Hid (w.heap.size < w21.heap.size) := HP.out.lt
          have HOy4_w : Hid (w6.heap.size ≤ w21.heap.size) := HKw.out.size
          have HOy4_x0 : Hid (w7.heap.size ≤ w21.heap.size) := HKx0.out.size
          have HOy4_x1 : Hid (w9.heap.size ≤ w21.heap.size) := HKx1.out.size
          have HOy4_x2 : Hid (w10.heap.size ≤ w21.heap.size) := HKx2.out.size
          have HOy4_x3 : Hid (w11.heap.size ≤ w21.heap.size) := HKx3.out.size
          have HOy4_x4 : Hid (w12.heap.size ≤ w21.heap.size) := HKx4.out.size
          have HOy4_g : Hid (w13.heap.size ≤ w21.heap.size) := HKg.out.size
          go_wp2_with fail; ((with_reducible refine (toIntSS_any2 A4 c4 xs4 _ (HT4.out _ HB21.out).1 (HT4.out _ HB21.out).2 hl4).mono ?_); rintro e w22 ⟨vy4, rfl, hry4, hb_20⟩); have hz_20 := hb_20.size; (try simp only [World.size_alloc, World.size_setCell, World.size_drew] at hz_20)
          have HB22 : Hid (Below w.heap.size w w22) := HB21.out.trans (hb_20.mono HB21.out.size)
          have HKw : Hid (Below w6.heap.size w6 w22) := HKw.out.trans (hb_20.mono HKw.out.size)
          have HKx0 : Hid (Below w7.heap.size w7 w22) := HKx0.out.trans (hb_20.mono HKx0.out.size)
          have HKx1 : Hid (Below w9.heap.size w9 w22) := HKx1.out.trans (hb_20.mono HKx1.out.size)
          have HKx2 : Hid (Below w10.heap.size w10 w22) := HKx2.out.trans (hb_20.mono HKx2.out.size)
          have HKx3 : Hid (Below w11.heap.size w11 w22) := HKx3.out.trans (hb_20.mono HKx3.out.size)
          have HKx4 : Hid (Below w12.heap.size w12 w22) := HKx4.out.trans (hb_20.mono HKx4.out.size)
          have HKg : Hid (Below w13.heap.size w13 w22) := HKg.out.trans (hb_20.mono HKg.out.size)
          have HP := Lib.hid (HP.out.keep hb_20); clear cP; have cP := HP.out.cell
          have HX := Lib.hid (HX.out.keep hb_20); clear cX; have cX := HX.out.cell
          clear hb_20 hz_20
          have HSy4 := Lib.hid hry4
          obtain ⟨By4, dy4, rfl⟩ := hry4.form; clear hry4
          have HKy4 : Hid (Below w22.heap.size w22 w22) := Below.refl _ _
          go_wp2_with fail; ((with_reducible refine (eqIntSS_any (.slice Bx4 xs4.length dx4) (.slice By4 xs4.length dy4) xs4 w22 _ _ _ _ (HSx4.out.below HKx4.out) (HSy4.out.below HKy4.out) HZK.out hl4).mono ?_); rintro e w23 ⟨rfl, hb_21⟩); have hz_21 := hb_21.size; (try simp only [World.size_alloc, World.size_setCell, World.size_drew] at hz_21)
          have HB23 : Hid (Below w.heap.size w w23) := HB22.out.trans (hb_21.mono HB22.out.size)
          have HKw : Hid (Below w6.heap.size w6 w23) := HKw.out.trans (hb_21.mono HKw.out.size)
          have HKx0 : Hid (Below w7.heap.size w7 w23) := HKx0.out.trans (hb_21.mono HKx0.out.size)
          have HKx1 : Hid (Below w9.heap.size w9 w23) := HKx1.out.trans (hb_21.mono HKx1.out.size)
          have HKx2 : Hid (Below w10.heap.size w10 w23) := HKx2.out.trans (hb_21.mono HKx2.out.size)
          have HKx3 : Hid (Below w11.heap.size w11 w23) := HKx3.out.trans (hb_21.mono HKx3.out.size)
          have HKx4 : Hid (Below w12.heap.size w12 w23) := HKx4.out.trans (hb_21.mono HKx4.out.size)
          have HKg : Hid (Below w13.heap.size w13 w23) := HKg.out.trans (hb_21.mono HKg.out.size)
          have HKy4 : Hid (Below w22.heap.size w22 w23) := HKy4.out.trans (hb_21.mono HKy4.out.size)
          have HP := Lib.hid (HP.out.keep hb_21); clear cP; have cP := HP.out.cell
          have HX := Lib.hid (HX.out.keep hb_21); clear cX; have cX := HX.out.cell
          clear hb_21 hz_21
          clear HSy4 HKy4
          obtain ⟨M1, hM1⟩ : ∃ M : Int, 1 + ((xs0.length * 3 : Nat) : Int) = M := ⟨_, rfl⟩
          have hM1a : 1 ≤ M1 ∧ M1 ≤ 1 + 4194304 := by have := hl0; omega
          obtain ⟨hM1a, hM1b⟩ := hM1a
          have HM1 := Lib.hid hM1; clear hM1
          go_wp2_with fail; ((with_reducible refine (markNet_any B0 Bx0 xs0.length dx0 (1) xs0 w23 w6.heap.size w7.heap.size (HSx0.out.below HKx0.out) HEx0.out HKx0.out.size hl0 (by omega) (by omega) M1 HM1.out).mono ?_); rintro e w24 ⟨rfl, hg_1⟩)
          have HGG : Hid (MkG w6.heap.size w7.heap.size w23 w24) := hg_1; clear hg_1
          have HB24 : Hid (Below w.heap.size w w24) := HB23.out.trans (HGG.out.below (Nat.le_of_lt HLx0.out) HB23.out.size)
          have HKw : Hid (Below w6.heap.size w6 w24) := HKw.out.trans (HGG.out.below HOx0_w.out HKw.out.size)
          have HSx1 := Lib.hid ((HSx1.out.below HKx1.out).mkg_up HGG.out HOx1_x0.out)
          have HKx1 : Hid (Below w24.heap.size w24 w24) := Below.refl _ _
          have HSx2 := Lib.hid ((HSx2.out.below HKx2.out).mkg_up HGG.out HOx2_x0.out)
          have HKx2 : Hid (Below w24.heap.size w24 w24) := Below.refl _ _
          have HSx3 := Lib.hid ((HSx3.out.below HKx3.out).mkg_up HGG.out HOx3_x0.out)
          have HKx3 : Hid (Below w24.heap.size w24 w24) := Below.refl _ _
          have HSx4 := Lib.hid ((HSx4.out.below HKx4.out).mkg_up HGG.out HOx4_x0.out)
          have HKx4 : Hid (Below w24.heap.size w24 w24) := Below.refl _ _
          have HSg := Lib.hid ((HSg.out.below HKg.out).mkg_up HGG.out HOg_x0.out)
          have HKg : Hid (Below w24.heap.size w24 w24) := Below.refl _ _
          clear HX cX
          have HP := Lib.hid (HP.out.of_block (HGG.out.block _ HP.out.lt (.inl HLx0.out))); clear cP; have cP := HP.out.cell
          clear HGG
          clear HSx0 HKx0
          obtain ⟨M2, hM2⟩ : ∃ M : Int, M1 + ((xs1.length * 1 : Nat) : Int) = M := ⟨_, rfl⟩
          have hM2a : 1 ≤ M2 ∧ M2 ≤ M1 + 4194304 := by have := hl1; omega
          obtain ⟨hM2a, hM2b⟩ := hM2a
          have HM2 := Lib.hid hM2; clear hM2
          go_wp2_with fail; ((with_reducible refine (markBoolS_any (.slice Bx1 xs1.length dx1) (M1) xs1 w24 _ _ (HSx1.out.below HKx1.out) HEx1.out hl1 (by omega) (by omega) M2 HM2.out).mono ?_); rintro e w25 ⟨rfl, hk_2, hs_2⟩)
          have hg_2 := hk_2.g
          have HGG : Hid (MkG (w7.alloc (.cells #[.int .i64 B0, .slice Bx0 xs0.length dx0] 30)).heap.size w9.heap.size w24 w25) := hg_2; clear hg_2 hk_2
          have HB25 : Hid (Below w.heap.size w w25) := HB24.out.trans (HGG.out.below (Nat.le_of_lt HLx1.out) HB24.out.size)
          have HKw : Hid (Below w6.heap.size w6 w25) := HKw.out.trans (HGG.out.below HOx1_w.out HKw.out.size)
          have HSx2 := Lib.hid ((HSx2.out.below HKx2.out).mkg_up HGG.out HOx2_x1.out)
          have HKx2 : Hid (Below w25.heap.size w25 w25) := Below.refl _ _
          have HSx3 := Lib.hid ((HSx3.out.below HKx3.out).mkg_up HGG.out HOx3_x1.out)
          have HKx3 : Hid (Below w25.heap.size w25 w25) := Below.refl _ _
          have HSx4 := Lib.hid ((HSx4.out.below HKx4.out).mkg_up HGG.out HOx4_x1.out)
          have HKx4 : Hid (Below w25.heap.size w25 w25) := Below.refl _ _
          have HSg := Lib.hid ((HSg.out.below HKg.out).mkg_up HGG.out HOg_x1.out)
          have HKg : Hid (Below w25.heap.size w25 w25) := Below.refl _ _
          have HP := Lib.hid (HP.out.of_block (HGG.out.block _ HP.out.lt (.inl HLx1.out))); clear cP; have cP := HP.out.cell
          have HSx1 := Lib.hid hs_2; clear hs_2
          have HKx1 : Hid (Below w25.heap.size w25 w25) := Below.refl _ _
          clear HGG
          clear HSx1 HKx1
          obtain ⟨M3, hM3⟩ : ∃ M : Int, M2 + ((xs2.length * 2 : Nat) : Int) = M := ⟨_, rfl⟩
          have hM3a : 1 ≤ M3 ∧ M3 ≤ M2 + 4194304 := by have := hl2; omega
          obtain ⟨hM3a, hM3b⟩ := hM3a
          have HM3 := Lib.hid hM3; clear hM3
          go_wp2_with fail; ((with_reducible refine (markBusS_any (.slice Bx2 xs2.length dx2) (M2) xs2 w25 _ _ (HSx2.out.below HKx2.out) HEx2.out hl2 (by omega) (by omega) M3 HM3.out).mono ?_); rintro e w26 ⟨rfl, hk_3, hs_3⟩)
          have hg_3 := hk_3.g
          have HGG : Hid (MkG w9.heap.size w10.heap.size w25 w26) := hg_3; clear hg_3 hk_3
          have HB26 : Hid (Below w.heap.size w w26) := HB25.out.trans (HGG.out.below (Nat.le_of_lt HLx2.out) HB25.out.size)
          have HKw : Hid (Below w6.heap.size w6 w26) := HKw.out.trans (HGG.out.below HOx2_w.out HKw.out.size)
          have HSx3 := Lib.hid ((HSx3.out.below HKx3.out).mkg_up HGG.out HOx3_x2.out)
          have HKx3 : Hid (Below w26.heap.size w26 w26) := Below.refl _ _
          have HSx4 := Lib.hid ((HSx4.out.below HKx4.out).mkg_up HGG.out HOx4_x2.out)
          have HKx4 : Hid (Below w26.heap.size w26 w26) := Below.refl _ _
          have HSg := Lib.hid ((HSg.out.below HKg.out).mkg_up HGG.out HOg_x2.out)
          have HKg : Hid (Below w26.heap.size w26 w26) := Below.refl _ _
          have HP := Lib.hid (HP.out.of_block (HGG.out.block _ HP.out.lt (.inl HLx2.out))); clear cP; have cP := HP.out.cell
          have HSx2 := Lib.hid hs_3; clear hs_3
          have HKx2 : Hid (Below w26.heap.size w26 w26) := Below.refl _ _
          clear HGG
          clear HSx2 HKx2
          obtain ⟨M4, hM4⟩ : ∃ M : Int, M3 + ((xs3.length * 1 : Nat) : Int) = M := ⟨_, rfl⟩
          have hM4a : 1 ≤ M4 ∧ M4 ≤ M3 + 4194304 := by have := hl3; omega
          obtain ⟨hM4a, hM4b⟩ := hM4a
          have HM4 := Lib.hid hM4; clear hM4
          go_wp2_with fail; ((with_reducible refine (markIntS_any (.slice Bx3 xs3.length dx3) (M3) xs3 w26 _ _ (HSx3.out.below HKx3.out) HEx3.out hl3 (by omega) (by omega) M4 HM4.out).mono ?_); rintro e w27 ⟨rfl, hk_4, hs_4⟩)
          have hg_4 := hk_4.g
          have HGG : Hid (MkG w10.heap.size w11.heap.size w26 w27) := hg_4; clear hg_4 hk_4
          have HB27 : Hid (Below w.heap.size w w27) := HB26.out.trans (HGG.out.below (Nat.le_of_lt HLx3.out) HB26.out.size)
          have HKw : Hid (Below w6.heap.size w6 w27) := HKw.out.trans (HGG.out.below HOx3_w.out HKw.out.size)
          have HSx4 := Lib.hid ((HSx4.out.below HKx4.out).mkg_up HGG.out HOx4_x3.out)
          have HKx4 : Hid (Below w27.heap.size w27 w27) := Below.refl _ _
          have HSg := Lib.hid ((HSg.out.below HKg.out).mkg_up HGG.out HOg_x3.out)
          have HKg : Hid (Below w27.heap.size w27 w27) := Below.refl _ _
          have HP := Lib.hid (HP.out.of_block (HGG.out.block _ HP.out.lt (.inl HLx3.out))); clear cP; have cP := HP.out.cell
          have HSx3 := Lib.hid hs_4; clear hs_4
          have HKx3 : Hid (Below w27.heap.size w27 w27) := Below.refl _ _
          clear HGG
          clear HSx3 HKx3
          obtain ⟨M5, hM5⟩ : ∃ M : Int, M4 + (lenS xs4 xs4.length : Nat) = M := ⟨_, rfl⟩
          have hM5a : 1 ≤ M5 ∧ M5 ≤ M4 + 4194304 := by have := HLS.out; omega
          obtain ⟨hM5a, hM5b⟩ := hM5a
          have HM5 := Lib.hid hM5; clear hM5
          go_wp2_with fail; ((with_reducible refine (markIntSS_any (.slice Bx4 xs4.length dx4) (M4) xs4 w27 _ _ (HSx4.out.below HKx4.out) HLS.out (by omega) (by omega) M5 HM5.out).mono ?_); rintro e w28 ⟨rfl, hk_5⟩)
          have hg_5 := hk_5.g
          have HGG : Hid (MkG w11.heap.size w12.heap.size w27 w28) := hg_5; clear hg_5 hk_5
          have HB28 : Hid (Below w.heap.size w w28) := HB27.out.trans (HGG.out.below (Nat.le_of_lt HLx4.out) HB27.out.size)
          have HKw : Hid (Below w6.heap.size w6 w28) := HKw.out.trans (HGG.out.below HOx4_w.out HKw.out.size)
          have HSg := Lib.hid ((HSg.out.below HKg.out).mkg_up HGG.out HOg_x4.out)
          have HKg : Hid (Below w28.heap.size w28 w28) := Below.refl _ _
          have HP := Lib.hid (HP.out.of_block (HGG.out.block _ HP.out.lt (.inl HLx4.out))); clear cP; have cP := HP.out.cell
          clear HGG
          clear HSx4 HKx4
          go_wp2_with fail; ((with_reducible refine (eqIntS_any Bg Bw dg dw out w28 (HSg.out.below HKg.out).reads.1 (HSw.out.below HKw.out).reads.1 HOL.out).mono ?_); rintro e w29 ⟨rfl, hb_22⟩); have hz_22 := hb_22.size; (try simp only [World.size_alloc, World.size_setCell, World.size_drew] at hz_22)
          have HB29 : Hid (Below w.heap.size w w29) := HB28.out.trans (hb_22.mono HB28.out.size)
          have HKw : Hid (Below w6.heap.size w6 w29) := HKw.out.trans (hb_22.mono HKw.out.size)
          have HKg : Hid (Below w28.heap.size w28 w29) := HKg.out.trans (hb_22.mono HKg.out.size)
          have HP := Lib.hid (HP.out.keep hb_22); clear cP; have cP := HP.out.cell
          clear hb_22 hz_22
          obtain ⟨M6, hM6⟩ : ∃ M : Int, 1 + ((out.length * 1 : Nat) : Int) = M := ⟨_, rfl⟩
          have hM6a : 1 ≤ M6 ∧ M6 ≤ 1 + 4194304 := by have := HOL.out; omega
          obtain ⟨hM6a, hM6b⟩ := hM6a
          have HM6 := Lib.hid hM6; clear hM6
          go_wp2_with fail; ((with_reducible refine (markIntS_any (.slice Bg out.length dg) (1) out w29 _ _ (HSg.out.below HKg.out) HEg.out HOL.out (by omega) (by omega) M6 HM6.out).mono ?_); rintro e w30 ⟨rfl, hk_6, hs_6⟩)
          have hg_6 := hk_6.g
          have HGG : Hid (MkG w12.heap.size w13.heap.size w29 w30) := hg_6; clear hg_6 hk_6
          have HB30 : Hid (Below w.heap.size w w30) := HB29.out.trans (HGG.out.below (Nat.le_of_lt HLg.out) HB29.out.size)
          have HKw : Hid (Below w6.heap.size w6 w30) := HKw.out.trans (HGG.out.below HOg_w.out HKw.out.size)
          have HP := Lib.hid (HP.out.of_block (HGG.out.block _ HP.out.lt (.inl HLg.out))); clear cP; have cP := HP.out.cell
          have HSg := Lib.hid hs_6; clear hs_6
          have HKg : Hid (Below w30.heap.size w30 w30) := Below.refl _ _
          clear HGG
          go_wp2_with fail; ((with_reducible refine (heldIntS_any (.slice Bg out.length dg) 1 out.length w30 _ (HSg.out.below HKg.out) HOL.out (by omega) (by omega) M6 HM6.out).mono ?_); rintro e w31 ⟨rfl, hb_23⟩); have hz_23 := hb_23.size; (try simp only [World.size_alloc, World.size_setCell, World.size_drew] at hz_23)
          have HB31 : Hid (Below w.heap.size w w31) := HB30.out.trans (hb_23.mono HB30.out.size)
          have HKw : Hid (Below w6.heap.size w6 w31) := HKw.out.trans (hb_23.mono HKw.out.size)
          have HKg : Hid (Below w30.heap.size w30 w31) := HKg.out.trans (hb_23.mono HKg.out.size)
          have HP := Lib.hid (HP.out.keep hb_23); clear cP; have cP := HP.out.cell
          clear hb_23 hz_23
          have HLz0 : Hid (w.heap.size < w31.heap.size) := HP.out.lt
          have HOz0_w : Hid (w6.heap.size ≤ w31.heap.size) := HKw.out.size
          have HOz0_g : Hid (w30.heap.size ≤ w31.heap.size) := HKg.out.size
          go_wp2_with fail; ((with_reducible refine (toNet_any B0 A0 c0 xs0 _ ((HR0.out.below HB31.out (Nat.le_refl _)).more HB31.out.size) hl0).mono ?_); rintro e w32 ⟨vz0, rfl, hrz0, hb_24⟩); have hz_24 := hb_24.size; (try simp only [World.size_alloc, World.size_setCell, World.size_drew] at hz_24)
          have HB32 : Hid (Below w.heap.size w w32) := HB31.out.trans (hb_24.mono HB31.out.size)
          have HKw : Hid (Below w6.heap.size w6 w32) := HKw.out.trans (hb_24.mono HKw.out.size)
          have HKg : Hid (Below w30.heap.size w30 w32) := HKg.out.trans (hb_24.mono HKg.out.size)
          have HP := Lib.hid (HP.out.keep hb_24); clear cP; have cP := HP.out.cell
          clear hb_24 hz_24
          have HSz0 := Lib.hid hrz0
          obtain ⟨Bz0, dz0, rfl, -⟩ := hrz0
          have HKz0 : Hid (Below w32.heap.size w32 w32) := Below.refl _ _
          have HLz1 : Hid (w.heap.size < w32.heap.size) := HP.out.lt
          have HOz1_w : Hid (w6.heap.size ≤ w32.heap.size) := HKw.out.size
          have HOz1_g : Hid (w30.heap.size ≤ w32.heap.size) := HKg.out.size
          have HOz1_z0 : Hid (w32.heap.size ≤ w32.heap.size) := HKz0.out.size
          go_wp2_with fail; ((with_reducible refine (toBoolS_any A1 c1 xs1 _ ((HR1.out.below HB32.out (Nat.le_refl _)).more HB32.out.size) hl1).mono ?_); rintro e w33 ⟨vz1, rfl, hrz1, hb_25⟩); have hz_25 := hb_25.size; (try simp only [World.size_alloc, World.size_setCell, World.size_drew] at hz_25)
          have HB33 : Hid (Below w.heap.size w w33) := HB32.out.trans (hb_25.mono HB32.out.size)
          have HKw : Hid (Below w6.heap.size w6 w33) := HKw.out.trans (hb_25.mono HKw.out.size)
          have HKg : Hid (Below w30.heap.size w30 w33) := HKg.out.trans (hb_25.mono HKg.out.size)
          have HKz0 : Hid (Below w32.heap.size w32 w33) := HKz0.out.trans (hb_25.mono HKz0.out.size)
          have HP := Lib.hid (HP.out.keep hb_25); clear cP; have cP := HP.out.cell
          clear hb_25 hz_25
          have HSz1 := Lib.hid hrz1
          obtain ⟨Bz1, dz1, rfl, -⟩ := hrz1
          have HKz1 : Hid (Below w33.heap.size w33 w33) := Below.refl _ _
          have HLz2 : Hid (w.heap.size < w33.heap.size) := HP.out.lt
          have HOz2_w : Hid (w6.heap.size ≤ w33.heap.size) := HKw.out.size
          have HOz2_g : Hid (w30.heap.size ≤ w33.heap.size) := HKg.out.size
          have HOz2_z0 : Hid (w32.heap.size ≤ w33.heap.size) := HKz0.out.size
          have HOz2_z1 : Hid (w33.heap.size ≤ w33.heap.size) := HKz1.out.size
          go_wp2_with fail; ((with_reducible refine (toBusS_any A2 c2 xs2 _ ((HR2.out.below HB33.out (Nat.le_refl _)).more HB33.out.size) hl2).mono ?_); rintro e w34 ⟨vz2, rfl, hrz2, hb_26⟩); have hz_26 := hb_26.size; (try simp only [World.size_alloc, World.size_setCell, World.size_drew] at hz_26)
          have HB34 : Hid (Below w.heap.size w w34) := HB33.out.trans (hb_26.mono HB33.out.size)
          have HKw : Hid (Below w6.heap.size w6 w34) := HKw.out.trans (hb_26.mono HKw.out.size)
          have HKg : Hid (Below w30.heap.size w30 w34) := HKg.out.trans (hb_26.mono HKg.out.size)
          have HKz0 : Hid (Below w32.heap.size w32 w34) := HKz0.out.trans (hb_26.mono HKz0.out.size)
          have HKz1 : Hid (Below w33.heap.size w33 w34) := HKz1.out.trans (hb_26.mono HKz1.out.size)
          have HP := Lib.hid (HP.out.keep hb_26); clear cP; have cP := HP.out.cell
          clear hb_26 hz_26
          have HSz2 := Lib.hid hrz2
          obtain ⟨Bz2, dz2, rfl, -⟩ := hrz2
          have HKz2 : Hid (Below w34.heap.size w34 w34) := Below.refl _ _
          have HLz3 : Hid (w.heap.size < w34.heap.size) := HP.out.lt
          have HOz3_w : Hid (w6.heap.size ≤ w34.heap.size) := HKw.out.size
          have HOz3_g : Hid (w30.heap.size ≤ w34.heap.size) := HKg.out.size
          have HOz3_z0 : Hid (w32.heap.size ≤ w34.heap.size) := HKz0.out.size
          have HOz3_z1 : Hid (w33.heap.size ≤ w34.heap.size) := HKz1.out.size
          have HOz3_z2 : Hid (w34.heap.size ≤ w34.heap.size) := HKz2.out.size
          go_wp2_with fail; ((with_reducible refine (toIntS_any A3 c3 xs3 _ ((HR3.out.below HB34.out (Nat.le_refl _)).more HB34.out.size) hl3).mono ?_); rintro e w35 ⟨vz3, rfl, hrz3, hb_27⟩); have hz_27 := hb_27.size; (try simp only [World.size_alloc, World.size_setCell, World.size_drew] at hz_27)
          have HB35 : Hid (Below w.heap.size w w35) := HB34.out.trans (hb_27.mono HB34.out.size)
          have HKw : Hid (Below w6.heap.size w6 w35) := HKw.out.trans (hb_27.mono HKw.out.size)
          have HKg : Hid (Below w30.heap.size w30 w35) := HKg.out.trans (hb_27.mono HKg.out.size)
          have HKz0 : Hid (Below w32.heap.size w32 w35) := HKz0.out.trans (hb_27.mono HKz0.out.size)
          have HKz1 : Hid (Below w33.heap.size w33 w35) := HKz1.out.trans (hb_27.mono HKz1.out.size)
          have HKz2 : Hid (Below w34.heap.size w34 w35) := HKz2.out.trans (hb_27.mono HKz2.out.size)
          have HP := Lib.hid (HP.out.keep hb_27); clear cP; have cP := HP.out.cell
          clear hb_27 hz_27
          have HSz3 := Lib.hid hrz3
          obtain ⟨Bz3, dz3, rfl, -⟩ := hrz3
          have HKz3 : Hid (Below w35.heap.size w35 w35) := Below.refl _ _
          have HLz4 : Hid (w.heap.size < w35.heap.size) := HP.out.lt
          have HOz4_w : Hid (w6.heap.size ≤ w35.heap.size) := HKw.out.size
          have HOz4_g : Hid (w30.heap.size ≤ w35.heap.size) := HKg.out.size
          have HOz4_z0 : Hid (w32.heap.size ≤ w35.heap.size) := HKz0.out.size
          have HOz4_z1 : Hid (w33.heap.size ≤ w35.heap.size) := HKz1.out.size
          have HOz4_z2 : Hid (w34.heap.size ≤ w35.heap.size) := HKz2.out.size
          have HOz4_z3 : Hid (w35.heap.size ≤ w35.heap.size) := HKz3.out.size
          go_wp2_with fail; ((with_reducible refine (toIntSS_any2 A4 c4 xs4 _ (HT4.out _ HB35.out).1 (HT4.out _ HB35.out).2 hl4).mono ?_); rintro e w36 ⟨vz4, rfl, hrz4, hb_28⟩); have hz_28 := hb_28.size; (try simp only [World.size_alloc, World.size_setCell, World.size_drew] at hz_28)
          have HB36 : Hid (Below w.heap.size w w36) := HB35.out.trans (hb_28.mono HB35.out.size)
          have HKw : Hid (Below w6.heap.size w6 w36) := HKw.out.trans (hb_28.mono HKw.out.size)
          have HKg : Hid (Below w30.heap.size w30 w36) := HKg.out.trans (hb_28.mono HKg.out.size)
          have HKz0 : Hid (Below w32.heap.size w32 w36) := HKz0.out.trans (hb_28.mono HKz0.out.size)
          have HKz1 : Hid (Below w33.heap.size w33 w36) := HKz1.out.trans (hb_28.mono HKz1.out.size)
          have HKz2 : Hid (Below w34.heap.size w34 w36) := HKz2.out.trans (hb_28.mono HKz2.out.size)
          have HKz3 : Hid (Below w35.heap.size w35 w36) := HKz3.out.trans (hb_28.mono HKz3.out.size)
          have HP := Lib.hid (HP.out.keep hb_28); clear cP; have cP := HP.out.cell
          clear hb_28 hz_28
          have HSz4 := Lib.hid hrz4
          obtain ⟨Bz4, dz4, rfl⟩ := hrz4.form; clear hrz4
          have HKz4 : Hid (Below w36.heap.size w36 w36) := Below.refl _ _
          have HLh : Hid (w.heap.size < w36.heap.size) := HP.out.lt
          have HOh_w : Hid (w6.heap.size ≤ w36.heap.size) := HKw.out.size
          have HOh_g : Hid (w30.heap.size ≤ w36.heap.size) := HKg.out.size
          have HOh_z0 : Hid (w32.heap.size ≤ w36.heap.size) := HKz0.out.size
          have HOh_z1 : Hid (w33.heap.size ≤ w36.heap.size) := HKz1.out.size
          have HOh_z2 : Hid (w34.heap.size ≤ w36.heap.size) := HKz2.out.size
          have HOh_z3 : Hid (w35.heap.size ≤ w36.heap.size) := HKz3.out.size
          have HOh_z4 : Hid (w36.heap.size ≤ w36.heap.size) := HKz4.out.size
          go_wp2_with fail; ((with_reducible refine (implZoneTrips_ss B0 Bz0 Bz1 Bz2 Bz3 Bz4 dz0 dz1 dz2 dz3 dz4 xs0 xs1 xs2 xs3 xs4 a5 _ _ _ (HSz0.out.below HKz0.out).reads.1 (HSz1.out.below HKz1.out).reads.1 (HSz2.out.below HKz2.out).reads.1 (HSz3.out.below HKz3.out).reads.1 (HSz4.out.below HKz4.out) HZK.out hl0 hl1 hl2 hl3 hl4 out HOUT.out).mono ?_); rintro e w37 ⟨vh, rfl, hrh, hb_29⟩); have hz_29 := hb_29.size; (try simp only [World.size_alloc, World.size_setCell, World.size_drew] at hz_29)
          have HB37 : Hid (Below w.heap.size w w37) := HB36.out.trans (hb_29.mono HB36.out.size)
          have HKw : Hid (Below w6.heap.size w6 w37) := HKw.out.trans (hb_29.mono HKw.out.size)
          have HKg : Hid (Below w30.heap.size w30 w37) := HKg.out.trans (hb_29.mono HKg.out.size)
          have HKz0 : Hid (Below w32.heap.size w32 w37) := HKz0.out.trans (hb_29.mono HKz0.out.size)
          have HKz1 : Hid (Below w33.heap.size w33 w37) := HKz1.out.trans (hb_29.mono HKz1.out.size)
          have HKz2 : Hid (Below w34.heap.size w34 w37) := HKz2.out.trans (hb_29.mono HKz2.out.size)
          have HKz3 : Hid (Below w35.heap.size w35 w37) := HKz3.out.trans (hb_29.mono HKz3.out.size)
          have HKz4 : Hid (Below w36.heap.size w36 w37) := HKz4.out.trans (hb_29.mono HKz4.out.size)
          have HP := Lib.hid (HP.out.keep hb_29); clear cP; have cP := HP.out.cell
          clear hb_29 hz_29
          have HSh := Lib.hid hrh
          obtain ⟨Bh, dh, rfl, -⟩ := hrh
          have HKh : Hid (Below w37.heap.size w37 w37) := Below.refl _ _
          clear HSz0 HKz0 HSz1 HKz1 HSz2 HKz2 HSz3 HKz3 HSz4 HKz4
          go_wp2_with fail; ((with_reducible refine (eqIntS_any Bh Bw dh dw out w37 (HSh.out.below HKh.out).reads.1 (HSw.out.below HKw.out).reads.1 HOL.out).mono ?_); rintro e w38 ⟨rfl, hb_30⟩); have hz_30 := hb_30.size; (try simp only [World.size_alloc, World.size_setCell, World.size_drew] at hz_30)
          have HB38 : Hid (Below w.heap.size w w38) := HB37.out.trans (hb_30.mono HB37.out.size)
          have HKw : Hid (Below w6.heap.size w6 w38) := HKw.out.trans (hb_30.mono HKw.out.size)
          have HKg : Hid (Below w30.heap.size w30 w38) := HKg.out.trans (hb_30.mono HKg.out.size)
          have HKh : Hid (Below w37.heap.size w37 w38) := HKh.out.trans (hb_30.mono HKh.out.size)
          have HP := Lib.hid (HP.out.keep hb_30); clear cP; have cP := HP.out.cell
          clear hb_30 hz_30
          go_wp2_with fail; ((with_reducible refine (heldIntS_any (.slice Bg out.length dg) 1 out.length w38 _ (HSg.out.below HKg.out) HOL.out (by omega) (by omega) M6 HM6.out).mono ?_); rintro e w39 ⟨rfl, hb_31⟩); have hz_31 := hb_31.size; (try simp only [World.size_alloc, World.size_setCell, World.size_drew] at hz_31)
          have HB39 : Hid (Below w.heap.size w w39) := HB38.out.trans (hb_31.mono HB38.out.size)
          have HKw : Hid (Below w6.heap.size w6 w39) := HKw.out.trans (hb_31.mono HKw.out.size)
          have HKg : Hid (Below w30.heap.size w30 w39) := HKg.out.trans (hb_31.mono HKg.out.size)
          have HKh : Hid (Below w37.heap.size w37 w39) := HKh.out.trans (hb_31.mono HKh.out.size)
          have HP := Lib.hid (HP.out.keep hb_31); clear cP; have cP := HP.out.cell
          clear hb_31 hz_31
          go_wp2
          go_ret
          exact ⟨rfl, HB39.out⟩
        · go_enter Try.func7, Try.ntmps7
          go_wp2_with fail
          refine (szNet_any B0 A0 xs0.length c0 _ _ (by omega) (by omega) (by omega)).mono ?_
          rintro e z0 ⟨rfl, hz0⟩
          have HZ0 := Lib.hid hz0; clear hz0
          have cQ := ((Bk.new w 24 #[.int .i64 B0, .slice A0 xs0.length c0]).keep HZ0.out).cell
          rw [if_pos (by omega)]
          go_wp2_with fail
          refine (szBusS_any A2 xs2.length c2 _ _ (by omega) (by omega) (by omega)).mono ?_
          rintro e w0 ⟨rfl, rfl⟩
          rw [if_neg (by omega)]
          go_wp2_with fail
          go_ret
          refine ⟨rfl, ?_⟩; have hz0 := HZ0.out; (repeat' (first | (with_reducible exact Below.refl _ _) | (with_reducible refine Below.alloc ?_ ?_ _) | (with_reducible refine Below.setCell ?_ ?_ _) | (with_reducible refine Below.drew ?_) | (refine Below.trans ?_ (Below.mono (by with_reducible assumption) ?_)) | go_size))
      · go_enter Try.func7, Try.ntmps7
        go_wp2_with fail
        refine (szNet_any B0 A0 xs0.length c0 _ _ (by omega) (by omega) (by omega)).mono ?_
        rintro e z0 ⟨rfl, hz0⟩
        have HZ0 := Lib.hid hz0; clear hz0
        have cQ := ((Bk.new w 24 #[.int .i64 B0, .slice A0 xs0.length c0]).keep HZ0.out).cell
        rw [if_neg (by omega)]
        go_wp2_with fail
        go_ret
        refine ⟨rfl, ?_⟩; have hz0 := HZ0.out; (repeat' (first | (with_reducible exact Below.refl _ _) | (with_reducible refine Below.alloc ?_ ?_ _) | (with_reducible refine Below.setCell ?_ ?_ _) | (with_reducible refine Below.drew ?_) | (refine Below.trans ?_ (Below.mono (by with_reducible assumption) ?_)) | go_size))
    · have hl3' : (1048576 : Int) < xs3.length := by omega
      go_enter Try.func7, Try.ntmps7
      go_wp2_with fail
      go_ret
      refine ⟨rfl, ?_⟩; (repeat' (first | (with_reducible exact Below.refl _ _) | (with_reducible refine Below.alloc ?_ ?_ _) | (with_reducible refine Below.setCell ?_ ?_ _) | (with_reducible refine Below.drew ?_) | (refine Below.trans ?_ (Below.mono (by with_reducible assumption) ?_)) | go_size))
  · have hl1' : (1048576 : Int) < xs1.length := by omega
    go_enter Try.func7, Try.ntmps7
    go_wp2_with fail
    go_ret
    refine ⟨rfl, ?_⟩; (repeat' (first | (with_reducible exact Below.refl _ _) | (with_reducible refine Below.alloc ?_ ?_ _) | (with_reducible refine Below.setCell ?_ ?_ _) | (with_reducible refine Below.drew ?_) | (refine Below.trans ?_ (Below.mono (by with_reducible assumption) ?_)) | go_size))
end Go.Proofs.Ytdfgdeccejcpfaa
/- For every input, laws.FnExactZoneTrips returns true, and its arguments read afterwards as before. No condition. -/
namespace Go.Proofs.Ytdfgdeccejcpfaa.fnExactZoneTrips
open Go.ChangeShapes Go.WideShapes Go.ChangeAt Go.RowKit Go.Deep
set_option linter.unusedVariables false

theorem own : ownKnob Try.prog.godebug = none := by kernel_rfl
theorem laidOut : laidOutB Try.prog = true := by kernel_rfl
set_option maxRecDepth 100000 in
theorem lifted (os : Os) (started : os.Started) (H : Type) (enc : TypeId × Value → H) :
    ReturnsInHanded {} Try.checked os 7 .any (Rows.fnExactZoneTripsSpec.pre6 enc Try.prog Try.f7 Rows.fnExactZoneTripsRow.domain false) (Rows.fnExactZoneTripsSpec.post enc Try.prog Try.f7 false true false false) := by
  refine returnsInHanded_of_change (C := Try.checked) own started (by kernel_rfl) Try.func7
    (ChangeSpec.witness6 (enc := enc) (C := Try.checked) false ⟨#[], #[.agg #[.int .i64 0, .slice none 0 0], .slice none 0 0, .slice none 0 0, .slice none 0 0, .slice none 0 0, .int .i64 0], []⟩ 8 (by kernel_rfl) (by kernel_rfl) (by kernel_rfl) (by kernel_rfl)) ?_
  intro W base args ds gs before hval0 hW hcnd _
  have hval : ∀ (j : Nat) t v, Try.f7.params[j]? = some t → args[j]? = some v → Value.okWide Try.prog W .any base t v := hval0
  have hW' := hW
  obtain ⟨p, q, hA0, hV, rfl, hfz, hnd⟩ := hW
  have hA : DataW.TrodAll enc Try.prog W 0 (fun _ => true) true Try.f7.params.toList args.toList ds p := hA0
  rw [Try.params7] at hA hval
  obtain ⟨v0, vs0, d0, ds0, p0, q0, hargs, rfl, rfl, h0, r0⟩ := trodAll_cons hA
  obtain ⟨v1, vs1, d1, ds1, p1, q1, rfl, rfl, rfl, h1, r1⟩ := trodAll_cons r0
  obtain ⟨v2, vs2, d2, ds2, p2, q2, rfl, rfl, rfl, h2, r2⟩ := trodAll_cons r1
  obtain ⟨v3, vs3, d3, ds3, p3, q3, rfl, rfl, rfl, h3, r3⟩ := trodAll_cons r2
  obtain ⟨v4, vs4, d4, ds4, p4, q4, rfl, rfl, rfl, h4, r4⟩ := trodAll_cons r3
  obtain ⟨v5, vs5, d5, ds5, p5, q5, rfl, rfl, rfl, h5, r5⟩ := trodAll_cons r4
  obtain ⟨rfl, rfl, rfl⟩ := trodAll_nil r5
  obtain rfl : args = #[v0, v1, v2, v3, v4, v5] := by cases args; simp_all
  obtain ⟨rfl, rfl⟩ := trodVars_none hV
  have k0 := h0
  have lt0 : ∀ x ∈ p0, x.block < W.heap.size := by obtain ⟨m, hm⟩ := k0; exact DataW.trod_lt m _ _ _ hm
  obtain ⟨B0, A0, n0, c0, xs0, rfl, w0, e0, g0, l0, m0, rd0⟩ := open_net _ Try.underlying24 rfl rfl (by kernel_rfl) Try.underlying3 (by kernel_rfl) Try.underlying22 (by kernel_rfl) (by kernel_rfl) (by decide) (good_R3 Try.underlying87 (by kernel_rfl) rfl (by kernel_rfl) (by intro i f h; rcases i with _ | _ | _ | i <;> simp at h <;> subst h <;> exact Try.underlying3)) (hval 0 24 v0 rfl rfl) h0
  have k1 := h1
  have lt1 : ∀ x ∈ p1, x.block < W.heap.size := by obtain ⟨m, hm⟩ := k1; exact DataW.trod_lt m _ _ _ hm
  obtain ⟨A1, n1, c1, rfl⟩ := okWide_slice Try.underlying36 (hval 1 36 v1 rfl rfl)
  obtain ⟨xs1, e1, g1, l1, m1, rd1⟩ := open_row _ Try.underlying36 (by kernel_rfl) (by decide) (good_bool Try.underlying4) h1
  have k2 := h2
  have lt2 : ∀ x ∈ p2, x.block < W.heap.size := by obtain ⟨m, hm⟩ := k2; exact DataW.trod_lt m _ _ _ hm
  obtain ⟨A2, n2, c2, rfl⟩ := okWide_slice Try.underlying37 (hval 2 37 v2 rfl rfl)
  obtain ⟨xs2, e2, g2, l2, m2, rd2⟩ := open_row _ Try.underlying37 (by kernel_rfl) (by decide) (good_R2 Try.underlying70 (by kernel_rfl) rfl (by kernel_rfl) (by intro i f h; rcases i with _ | _ | i <;> simp at h <;> subst h <;> exact Try.underlying3)) h2
  have k3 := h3
  have lt3 : ∀ x ∈ p3, x.block < W.heap.size := by obtain ⟨m, hm⟩ := k3; exact DataW.trod_lt m _ _ _ hm
  obtain ⟨A3, n3, c3, rfl⟩ := okWide_slice Try.underlying25 (hval 3 25 v3 rfl rfl)
  obtain ⟨xs3, e3, g3, l3, m3, rd3⟩ := open_row _ Try.underlying25 (by kernel_rfl) (by decide) (good_int Try.underlying3) h3
  have k4 := h4
  have lt4 : ∀ x ∈ p4, x.block < W.heap.size := by obtain ⟨m, hm⟩ := k4; exact DataW.trod_lt m _ _ _ hm
  obtain ⟨A4, n4, c4, rfl⟩ := okWide_slice Try.underlying48 (hval 4 48 v4 rfl rfl)
  obtain ⟨xs4, e4, g4, l4, m4, rd4⟩ := open_row _ Try.underlying48 (by kernel_rfl) (by decide) (good_slice Try.underlying25 Try.underlying3 (by kernel_rfl)) h4
  have k5 := h5
  have lt5 : ∀ x ∈ p5, x.block < W.heap.size := by obtain ⟨m, hm⟩ := k5; exact DataW.trod_lt m _ _ _ hm
  obtain ⟨a5, rfl, rfl, rfl, w5⟩ := open_int Try.underlying3 (hval 5 3 v5 rfl rfl) h5
  clear hA0 hval0
  refine (fnExactZoneTrips_any B0 A0 n0 c0 xs0 A1 n1 c1 xs1 A2 n2 c2 xs2 A3 n3 c3 xs3 A4 n4 c4 xs4 a5 W w0 e0 g0 l0 m0 rd0 e1 g1 l1 m1 rd1 e2 g2 l2 m2 rd2 e3 g3 l3 m3 rd3 e4 g4 l4 m4 rd4 (i64_of_wf w5)).mono fun e W' ⟨he, bel⟩ => ?_
  subst he
  exact ⟨_, rfl, _, _, _, [], _, [], hW', trodAll_mk1 (shut_bool Try.underlying4 _), (trodAll_cons_mk (Below.trod laidOut (by kernel_rfl) (of_decide_eq_true (by kernel_rfl)) k0 bel lt0) (trodAll_cons_mk (Below.trod laidOut (by kernel_rfl) (of_decide_eq_true (by kernel_rfl)) k1 bel lt1) (trodAll_cons_mk (Below.trod laidOut (by kernel_rfl) (of_decide_eq_true (by kernel_rfl)) k2 bel lt2) (trodAll_cons_mk (Below.trod laidOut (by kernel_rfl) (of_decide_eq_true (by kernel_rfl)) k3 bel lt3) (trodAll_cons_mk (Below.trod laidOut (by kernel_rfl) (of_decide_eq_true (by kernel_rfl)) k4 bel lt4) (trodAll_cons_mk (Below.trod laidOut (by kernel_rfl) (of_decide_eq_true (by kernel_rfl)) k5 bel lt5) trodAll_mk0)))))), rfl, bel.frame _, fun h => by cases h⟩

theorem proved : Rows.FnExactZoneTripsSaid :=
  OpenClaim.holds_of_wide 7 Try.f7 rfl rfl rfl rfl rfl rfl rfl ⟨rfl, rfl, rfl, rfl, rfl⟩ rfl rfl rfl rfl rfl (by kernel_rfl) Try.func7 (by kernel_rfl)
    (of_decide_eq_true (by kernel_rfl)) (by unfold Func.isWrapper; first | (rw [if_pos (by decide +kernel)]; kernel_rfl) | (rw [if_neg (by decide +kernel)]; exact ⟨rfl, rfl⟩))
    (fun os started H enc _ => lifted os started H enc)
#print axioms proved
end Go.Proofs.Ytdfgdeccejcpfaa.fnExactZoneTrips
