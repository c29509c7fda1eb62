/- Slices of Int: marks. -/
import Derived.Test.YtdfgdeccejcpfaaProg
import Derived.Test.YtdfgdeccejcpfaaMk
namespace Go.Proofs.Ytdfgdeccejcpfaa
open Go.RowKit Go.ChangeShapes Go.WideShapes Go.Deep
set_option linter.unusedSimpArgs false
set_option linter.unusedVariables false
set_option maxHeartbeats 1000000 in
theorem markIntS_any (v : Value) (k0 : Int) (xs : List Int) (w : World) (B E : Nat) (hR : Res 1 intC 3 w B v xs) (hE : xs.length = 0 ∨ ∀ g, v.ownBlock = some g → g < E) (hl : xs.length ≤ 1048576) (hk0 : 0 ≤ k0) (hk1 : k0 ≤ 1000000000000) (M : Int) (hM : k0 + ((xs.length * 1 : Nat) : Int) = M) :
    Calls Try.prog 34 #[v, .int .i64 k0] w fun e w' => e = .returned (.int .i64 M) ∧ Mk B E w w' ∧ Res 1 intC 3 w' B v (marks id 1 k0 xs.length) := by
  obtain ⟨A, cp, rfl, hown⟩ := hR.own
  clear hR
  generalize hn : xs.length = n at hl hown hM hE ⊢
  clear hn
  have hown2 : n = 0 ∨ ∃ g m f, A = some ⟨g, 0, none⟩ ∧ B ≤ g ∧ g < E ∧ w.rowIs g 3 m f ∧ n * 1 ≤ m := by
    rcases hown with hz | ⟨g, m, f, rfl, hgB, _, hrow, hm⟩
    · exact .inl hz
    · rcases hE with hz | hE
      · exact .inl hz
      · exact .inr ⟨g, m, f, rfl, hgB, hE g rfl, hrow, hm⟩
  clear hown hE
  rcases hown2 with hz | ⟨g, m, f, rfl, hgB, hgE, hrow, hm⟩
  · subst hz
    have h0 : k0 = M := by omega
    subst h0
    clear hM
    go_enter Try.func34, Try.ntmps34
    go_wp2_with fail
    go_loopw [1, 5] (fun t u wr => t = .int .i64 k0 ∧ u = .int .i64 0 ∧ Hid (wr = w)) (fun _ _ _ => 0)
    case atStart => exact ⟨rfl, rfl, rfl⟩
    case round =>
      obtain ⟨rfl, rfl, HW⟩ := hrel
      have h := HW.out
      subst h
      go_wp2
      go_ret
      exact ⟨rfl, Mk.refl _ _ _, Res.empty (by simp) rfl⟩
  · have HR0 := Lib.hid hrow; clear hrow
    have HRet := Lib.hid hM; clear hM
    go_enter Try.func34, Try.ntmps34
    go_wp2_with fail
    go_loopw [1, 5] (fun t u wr => ∃ (i : Nat), u = .int .i64 i ∧ i ≤ n ∧ t = .int .i64 (k0 + (i * 1 : Nat)) ∧ Hid (wr.rowIs g 3 m (fun j => if j < i * 1 then intC (id (k0 + ((j) / 1 * 1 : Nat))) ((j) % 1) else f j)) ∧ Hid (Mk B E w wr)) (fun _ u _ => n - (intOf u).toNat)
    case atStart =>
      refine ⟨0, rfl, Nat.zero_le _, by simp, ?_, Mk.refl _ _ _⟩
      unfold Hid; exact HR0.out.congr (fun i _ => by simp)
    case round =>
      obtain ⟨i, rfl, hi, rfl, HRow, HB⟩ := hrel
      by_cases hlt : i < n
      · have hzr := HRow.out.lt
        have hfz := HRow.out.frozen
        have hi1 : (i : Int) < (n : Int) := by omega
        have hi0 : (0 : Int) ≤ (i : Int) := by omega
        have hcs : ∀ q, q < m → (wr.cell? ⟨g, q, none⟩).isSome = true := fun q hq => by rw [HRow.out.cell hq]; rfl
        obtain ⟨y0, hy0⟩ := Option.isSome_iff_exists.1 (hcs (i) (by omega))
        clear hcs
        generalize hkk : k0 + ((i * 1 : Nat) : Int) = kk
        have hkb : 0 ≤ kk ∧ kk ≤ 2000000000000 := by omega
        obtain ⟨hkb0, hkb1⟩ := hkb
        have HK := Lib.hid hkk; clear hkk
        go_wp2
        go_roundw
        case rel =>
          have hkk := HK.out
          refine ⟨i + 1, by go_num, by omega, by first | (go_num; done) | (go_num; omega), ?_, ?_⟩
          · unfold Hid
            refine ((HRow.out.set (i) _)).congr (fun j hj => ?_)
            have hq : j / 1 = i ∨ j / 1 < i ∨ i < j / 1 := by omega
            rcases hq with hq | hq | hq
            · rw [if_pos (show j < (i + 1) * 1 from by omega), hq, hkk]
              have hr : j = i * 1 + 0 := by omega
              rcases hr with hr
              · subst hr
                have hm2 : (i * 1 + 0) % 1 = 0 := by omega
                rw [hm2]
                simp [intC, id]
            · rw [if_neg (by omega), if_pos (show j < i * 1 from by omega), if_pos (by omega)]
            · rw [if_neg (by omega), if_neg (by omega), if_neg (by omega)]
          · unfold Hid; exact (HB.out.set (p := ⟨g, i, none⟩) hgB hgE _)
        case measure => simp [intOf]; omega
      · obtain rfl : i = n := by omega
        rw [HRet.out]
        have HX := HRow.out
        go_wp2
        go_ret
        refine ⟨rfl, HB.out, Res.of_row hgB HX (by simp) (by simpa using hm) (fun j x hx q hq => ?_)⟩
        obtain ⟨hj, rfl⟩ := marks_get hx
        have h1 : (j * 1 + q) / 1 = j := by omega
        have h2 : (j * 1 + q) % 1 = q := by omega
        have h3 : j * 1 + q < i * 1 := idx_lt hj hq
        rw [if_pos h3, h1, h2]
set_option maxHeartbeats 1000000 in
theorem heldIntS_any (v : Value) (k0 : Int) (n : Nat) (w : World) (B : Nat) (hR : Res 1 intC 3 w B v (marks id 1 k0 n)) (hl : n ≤ 1048576) (hk0 : 0 ≤ k0) (hk1 : k0 ≤ 1000000000000) (M : Int) (hM : k0 + ((n * 1 : Nat) : Int) = M) :
    Calls Try.prog 36 #[v, .int .i64 k0] w fun e w' => e = .returned (.int .i64 M) ∧ Below w.heap.size w w' := by
  obtain ⟨A, cp, rfl, hown⟩ := hR.own
  clear hown
  have HR := Lib.hid hR.reads.1; clear hR
  rw [marks_len]
  have HRet := Lib.hid hM; clear hM
  go_enter Try.func36, Try.ntmps36
  go_wp2_with fail
  go_loopw [1, 5] (fun t u wr => ∃ (i : Nat), u = .int .i64 i ∧ i ≤ n ∧ t = .int .i64 (k0 + (i * 1 : Nat)) ∧ Hid (∃ q, wr = w.drewN q)) (fun _ u _ => n - (intOf u).toNat)
  case atStart => exact ⟨0, rfl, Nat.zero_le _, by simp, 0, rfl⟩
  case round =>
    obtain ⟨i, rfl, hi, rfl, HW⟩ := hrel
    obtain ⟨q, rfl⟩ := HW.out
    clear HW
    by_cases hlt : i < n
    · have hx : i < (marks id 1 k0 n).length := by rw [marks_len]; exact hlt
      obtain ⟨b, off, rfl, _, qc0⟩ := HR.out.at1 hx
      generalize hkk : k0 + ((i * 1 : Nat) : Int) = kk
      have hkb : 0 ≤ kk ∧ kk ≤ 2000000000000 := by omega
      obtain ⟨hkb0, hkb1⟩ := hkb
      have hc0 : w.cell? ⟨b, off + i, none⟩ = some (.int .i64 (kk)) := by rw [qc0, marks_at hx, hkk]; rfl
      clear qc0
      have HK := Lib.hid hkk; clear hkk
      have hne : ∀ z : Int, (z != z) = false := fun z => by simp
      have hneb : ∀ z : Bool, (z != z) = false := fun z => by simp
      have hi1 : (i : Int) < (n : Int) := by omega
      have hi0 : (0 : Int) ≤ (i : Int) := by omega
      go_wp2
      all_goals first
        | (refine ⟨⟨i + 1, by go_num, by omega, by have := HK.out; first | (go_num; done) | (go_num; omega), ⟨_, rfl⟩⟩, by simp [intOf]; omega⟩)
        | (go_roundw
           case rel => exact ⟨i + 1, by go_num, by omega, by have := HK.out; first | (go_num; done) | (go_num; omega), ⟨_, rfl⟩⟩
           case measure => simp [intOf]; omega)
        | (exfalso; simp at *; omega)
    · obtain rfl : i = n := by omega
      rw [HRet.out]
      go_wp2
      go_ret
      exact ⟨rfl, below_drewN' (Below.refl _ _) _⟩
end Go.Proofs.Ytdfgdeccejcpfaa
