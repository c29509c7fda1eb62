/- Blocks: sums of some of them. -/
import Derived.Test.YtecekhjlapaofaaDoorBlkA
import Derived.Test.YtecekhjlapaofaaDoorSl1
namespace Go.Proofs.YtecekhjlapaofaaDoor
open Go.RowKit
set_option linter.unusedSimpArgs false
set_option linter.unusedVariables false

/-- The sizes of the blocks with these indices; p: the index before. -/
def shSum (xs : List R2) : Int → Int → List Int → Option Int
  | _, t, [] => some t
  | p, t, i :: l => if p < i ∧ i < xs.length then shSum xs i (t + (xs.getD i.toNat ⟨0, 0⟩).a) l else none
def shedSum (xs : List R2) (ys : List Int) : Int := if BlksP xs then (shSum xs (-1) 0 ys).getD (-1) else -1
theorem shSum_step {xs : List R2} {ys : List Int} {i : Nat} {p t y : Int} (hi : i < ys.length) (hy : ys[i] = y) : shSum xs p t (ys.drop i) = if p < y ∧ y < xs.length then shSum xs y (t + (xs.getD y.toNat ⟨0, 0⟩).a) (ys.drop (i + 1)) else none := by
  rw [List.drop_eq_getElem_cons hi, hy]; rfl
theorem getD_ok {xs : List R2} (h : BlksP xs) {y : Int} (h0 : 0 ≤ y) (h1 : y < xs.length) : 1 ≤ (xs.getD y.toNat ⟨0, 0⟩).a ∧ (xs.getD y.toNat ⟨0, 0⟩).a ≤ 999 := by
  have hlt : y.toNat < xs.length := by omega
  have e : xs.getD y.toNat ⟨0, 0⟩ = xs[y.toNat] := by rw [List.getD_eq_getElem?_getD, List.getElem?_eq_getElem hlt]; rfl
  have := h.2 _ (List.getElem_mem hlt)
  rw [e]; unfold BlkOk at this; omega
def prevOf (ys : List Int) (i : Nat) : Int := if i = 0 then -1 else ys.getD (i - 1) 0
theorem prevOf_succ {ys : List Int} {i : Nat} (h : i < ys.length) : prevOf ys (i + 1) = ys[i] := by
  unfold prevOf; rw [if_neg (by omega), Nat.add_sub_cancel, List.getD_eq_getElem?_getD, List.getElem?_eq_getElem h]; rfl

set_option maxRecDepth 100000 in
set_option maxHeartbeats 2000000 in
theorem implShedSum_any (A B : Option Addr) (c d : Nat) (xs : List R2) (ys : List Int) (w : World) (hR : Reads 2 r2C w w.heap.size A xs) (hS : Reads 1 intC w w.heap.size B ys) (hg : ∀ y ∈ ys, I64 y) (hl : xs.length ≤ 1048576) (hl2 : ys.length ≤ 1048576) :
    Calls Tryd.prog 14 #[.slice A xs.length c, .slice B ys.length d] w fun e w' => e = .returned (.int .i64 (shedSum xs ys)) ∧ Below w.heap.size w w' := by
  generalize hV : shedSum xs ys = V
  have HR := Lib.hid hR; clear hR
  have HS := Lib.hid hS; clear hS
  have HG := Lib.hid hg; clear hg
  by_cases hp : BlksP xs
  · have hv := blksV_t.2 hp
    have e1 : (shSum xs (-1) 0 ys).getD (-1) = V := by rw [← hV]; unfold shedSum; rw [if_pos hp]
    clear hV
    have HP := Lib.hid hp; clear hp
    generalize hO : shSum xs (-1) 0 ys = O at e1
    have HV := Lib.hid e1; clear e1
    have HO := Lib.hid hO; clear hO
    go_enter Tryd.func14, Tryd.ntmps14
    go_wp2_with fail; ((with_reducible refine (implBlocksValid_any A c xs w HR.out hl).mono ?_); rintro e w1 ⟨rfl, hb_1⟩); have hz_1 := hb_1.size; (try simp only [World.size_alloc, World.size_setCell, World.size_drew] at hz_1)
    generalize hn : xs.length = n at hl ⊢
    generalize hm : ys.length = m at hl2 ⊢
    have HN := Lib.hid hn; clear hn
    have HM := Lib.hid hm; clear hm
    go_wp2_with fail
    go_loop [5, 13] (fun t u => ∃ (i : Nat) (z : Int), u = .int .i64 i ∧ i ≤ m ∧ t = .int .i64 z ∧ 0 ≤ z ∧ z ≤ 999 * i ∧ Hid (-1 ≤ prevOf ys i ∧ shSum xs (prevOf ys i) z (ys.drop i) = O)) (fun _ u => m - (intOf u).toNat)
    case atStart => exact ⟨0, 0, rfl, Nat.zero_le _, rfl, Int.le_refl _, Int.le_refl _, ⟨by simp [prevOf], HO.out⟩⟩
    case round =>
      obtain ⟨i, z, rfl, hi, rfl, hz0, hz1, HA⟩ := hrel
      by_cases hlt : i < m
      · have hx : i < ys.length := by rw [HM.out]; exact hlt
        obtain ⟨b, off, rfl, hb, hc⟩ := HS.out.at1 hx
        have hc1 : w1.cell? ⟨b, off + i, none⟩ = some (.int .i64 ys[i]) := (hb_1.cell (p := ⟨b, off + i, none⟩) hb).trans hc
        obtain ⟨hA1, hA2⟩ := HA.out
        rw [shSum_step hx rfl, HN.out] at hA2
        have hsucc := prevOf_succ hx
        have hgy := HG.out ys[i] (List.getElem_mem hx)
        unfold I64 at hgy
        obtain ⟨hg1, hg2⟩ := hgy
        clear hc
        generalize hyy : ys[i] = y at hc1 hA2 hsucc hg1 hg2
        clear hyy
        have HSC := Lib.hid hsucc; clear hsucc
        by_cases hk : i = 0
        · have hA1' : prevOf ys i = -1 := by simp [prevOf, hk]
          have hk' : (i : Int) ≤ 0 := by omega
          have hpl : prevOf ys i ≤ -1 := by omega
          clear hA1' hk
          generalize prevOf ys i = p at hA1 hA2 hpl
          by_cases hq : p < y ∧ y < (n : Int)
          · rw [if_pos hq] at hA2
            obtain ⟨hq1, hq2⟩ := hq
            obtain ⟨yn, rfl⟩ := Int.eq_ofNat_of_zero_le (by omega : 0 ≤ y)
            have hyn : yn < xs.length := by rw [HN.out]; omega
            obtain ⟨b2, off2, rfl, hb2, hs0, hs1⟩ := HR.out.at2 hyn
            have hs0 := (hb_1.cell (p := ⟨b2, off2 + yn * 2, none⟩) hb2).trans hs0
            have hgd := getD_ok HP.out (y := (yn : Int)) (by omega) (by rw [HN.out]; exact hq2)
            rw [Int.toNat_natCast, List.getD_eq_getElem?_getD, List.getElem?_eq_getElem hyn] at hgd
            rw [Int.toNat_natCast, List.getD_eq_getElem?_getD, List.getElem?_eq_getElem hyn] at hA2
            simp only [Option.getD_some] at hgd hA2
            clear hs1
            generalize xs[yn].a = sz at hs0 hgd hA2
            obtain ⟨hgd1, hgd2⟩ := hgd
            have HA2 := Lib.hid hA2; clear hA2
            have hyn' : yn < n := by omega
            have hi1 : 999 * (i : Int) ≤ 999 * 1048576 := by omega
            go_wp2
            all_goals try (exfalso; omega; done)
            go_round
            case rel => exact ⟨i + 1, z + sz, by go_num, by omega, rfl, by omega, by push_cast; omega, ⟨by rw [HSC.out]; omega, by rw [HSC.out]; exact HA2.out⟩⟩
            case measure => simp [intOf]; omega
          · rw [if_neg hq] at hA2
            have HA2 := Lib.hid hA2; clear hA2
            go_wp2
            all_goals try (exfalso; omega; done)
            all_goals (go_ret; have hv2 := HV.out; rw [← HA2.out] at hv2; exact ⟨by rw [← hv2]; rfl, hb_1⟩)
        · have hk' : 0 < (i : Int) := by omega
          have hA1' : prevOf ys i = ys[i - 1]'(by omega) := by unfold prevOf; rw [if_neg hk, List.getD_eq_getElem?_getD, List.getElem?_eq_getElem (by omega : i - 1 < ys.length)]; rfl
          rw [hA1'] at hA1 hA2
          obtain ⟨b', off', e, _, hcp⟩ := HS.out.at1 (i := i - 1) (by omega)
          injection e with e; injection e with e1 e2
          subst e1 e2
          have hcp : w1.cell? ⟨b, off + (i - 1), none⟩ = some (.int .i64 (ys[i - 1]'(by omega))) := (hb_1.cell (p := ⟨b, off + (i - 1), none⟩) hb).trans hcp
          generalize ys[i - 1]'(by omega) = p at hA1 hA2 hcp hA1'
          clear hA1' hk
          by_cases hq : p < y ∧ y < (n : Int)
          · rw [if_pos hq] at hA2
            obtain ⟨hq1, hq2⟩ := hq
            obtain ⟨yn, rfl⟩ := Int.eq_ofNat_of_zero_le (by omega : 0 ≤ y)
            have hyn : yn < xs.length := by rw [HN.out]; omega
            obtain ⟨b2, off2, rfl, hb2, hs0, hs1⟩ := HR.out.at2 hyn
            have hs0 := (hb_1.cell (p := ⟨b2, off2 + yn * 2, none⟩) hb2).trans hs0
            have hgd := getD_ok HP.out (y := (yn : Int)) (by omega) (by rw [HN.out]; exact hq2)
            rw [Int.toNat_natCast, List.getD_eq_getElem?_getD, List.getElem?_eq_getElem hyn] at hgd
            rw [Int.toNat_natCast, List.getD_eq_getElem?_getD, List.getElem?_eq_getElem hyn] at hA2
            simp only [Option.getD_some] at hgd hA2
            clear hs1
            generalize xs[yn].a = sz at hs0 hgd hA2
            obtain ⟨hgd1, hgd2⟩ := hgd
            have HA2 := Lib.hid hA2; clear hA2
            have hyn' : yn < n := by omega
            have hi1 : 999 * (i : Int) ≤ 999 * 1048576 := by omega
            go_wp2
            all_goals try (exfalso; omega; done)
            go_round
            case rel => exact ⟨i + 1, z + sz, by go_num, by omega, rfl, by omega, by push_cast; omega, ⟨by rw [HSC.out]; omega, by rw [HSC.out]; exact HA2.out⟩⟩
            case measure => simp [intOf]; omega
          · rw [if_neg hq] at hA2
            have HA2 := Lib.hid hA2; clear hA2
            go_wp2
            all_goals try (exfalso; omega; done)
            all_goals (go_ret; have hv2 := HV.out; rw [← HA2.out] at hv2; exact ⟨by rw [← hv2]; rfl, hb_1⟩)
      · go_wp2
        go_ret
        obtain ⟨hA1, hA2⟩ := HA.out
        rw [List.drop_of_length_le (by rw [HM.out]; omega)] at hA2
        have hv2 := HV.out
        rw [← hA2] at hv2
        exact ⟨by rw [← hv2]; rfl, hb_1⟩
  · have hv := blksV_f.2 hp
    have e1 : V = -1 := by rw [← hV]; unfold shedSum; rw [if_neg hp]
    subst e1
    clear hp hV
    go_enter Tryd.func14, Tryd.ntmps14
    go_wp2_with fail; ((with_reducible refine (implBlocksValid_any A c xs w HR.out hl).mono ?_); rintro e w1 ⟨rfl, hb_2⟩); have hz_2 := hb_2.size; (try simp only [World.size_alloc, World.size_setCell, World.size_drew] at hz_2)
    go_wp2_with fail
    go_ret
    exact ⟨rfl, hb_2⟩
end Go.Proofs.YtecekhjlapaofaaDoor
