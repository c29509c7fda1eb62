/- Ramps: the units of the next hour, the program's. -/
import Derived.Test.YtcpopbkcphpdfaaDoorRmpA
import Derived.StillTailTactics
namespace Go.Proofs.YtcpopbkcphpdfaaDoor
open Go.RowKit
set_option linter.unusedSimpArgs false
set_option linter.unusedVariables false

set_option maxRecDepth 100000 in
set_option maxHeartbeats 2000000 in
theorem implRampUnits_any (A B C : Option Addr) (c d f : Nat) (xs : List R4) (rs ys : List Int) (w : World) (hR : Reads 4 r4C w w.heap.size A xs) (hT : Reads 1 intC w w.heap.size B rs) (hS : Reads 1 intC w w.heap.size C ys) (hl : xs.length ≤ 1048576) (hl1 : rs.length ≤ 1048576) (hl2 : ys.length ≤ 1048576) :
    Calls Tryd.prog 26 #[.slice A xs.length c, .slice B rs.length d, .slice C ys.length f] w (RetS 4 r4C 27 w (rampOut xs rs ys)) := by
  have HR := Lib.hid hR; clear hR
  have HS := Lib.hid hS; clear hS
  have HT := Lib.hid hT; clear hT
  by_cases hp : RampP xs rs ys
  · have hv := rampB_t.2 hp
    have hO : rampOut xs rs ys = rampL xs rs ys := by unfold rampOut; rw [if_pos hv]
    rw [hO]; clear hO
    have HP := Lib.hid hp; clear hp
    go_enter Tryd.func26, Tryd.ntmps26
    go_wp2_with fail; ((with_reducible refine (rampsValid_any A B C c d f xs rs ys w HR.out HT.out HS.out hl hl1 hl2).mono ?_); rintro e w1 ⟨rfl, hb_1⟩); have hz_1 := hb_1.size; (try simp only [World.size_alloc, World.size_setCell, World.size_drew] at hz_1)
    go_wp2_with fail; ((with_reducible refine (cloneUnit_any A c xs w1 ((HR.out.below hb_1 (Nat.le_refl _)).more hb_1.size) hl).mono ?_); rintro e w2 ⟨v2, rfl, hr2, hb_2⟩); have hz_2 := hb_2.size; (try simp only [World.size_alloc, World.size_setCell, World.size_drew] at hz_2)
    have HB2 : Hid (Below w.heap.size w w2) := hb_1.trans (hb_2.mono hb_1.size)
    have HV := Lib.hid hr2
    obtain ⟨gA, gc, rfl, hown⟩ := hr2
    have HO := Lib.hid hown; clear hown
    have hxl : Hid (rs.length = xs.length ∧ ys.length = xs.length) := ⟨HP.out.2.1, HP.out.1.2.1⟩
    generalize hn : xs.length = n at hl hxl ⊢
    have HN := Lib.hid hn; clear hn
    generalize hm1 : rs.length = m1 at hl1 hxl ⊢
    generalize hm2 : ys.length = m2 at hl2 hxl ⊢
    have HM1 := Lib.hid hm1; have HM2 := Lib.hid hm2; clear hm1 hm2
    go_wp2_with fail
    go_loopw [18] (fun t wr => ∃ i : Nat, t = .int .i64 i ∧ i ≤ n ∧ Hid (n = 0 ∨ ∃ g m f, gA = some ⟨g, 0, none⟩ ∧ w1.heap.size ≤ g ∧ wr.rowIs g 27 m f ∧ n * 4 ≤ m ∧
        (∀ (j : Nat) (hj : j < xs.length), i ≤ j → ∀ q, q < 4 → f (j * 4 + q) = r4C xs[j] q) ∧ (∀ j x, j < i → (rampL xs rs ys)[j]? = some x → ∀ q, q < 4 → f (j * 4 + q) = r4C x q)) ∧ Hid (Below w.heap.size w wr)) (fun t _ => n - (intOf t).toNat)
    case atStart =>
      refine ⟨0, rfl, Nat.zero_le _, ?_, HB2⟩
      unfold Hid
      rcases HO.out with h | ⟨g, m, f, h1, h2, h3, h4, h5⟩
      · left; rw [← HN.out, h]; rfl
      · right
        refine ⟨g, m, f, h1, h2, h3, by rw [← HN.out]; exact h4, fun j hj _ q hq => h5 j _ (List.getElem?_eq_getElem hj) q hq, fun j x hj => absurd hj (by omega)⟩
    case round =>
      obtain ⟨i, rfl, hi, HF, HB⟩ := hrel
      have hz1 := hb_1.size
      by_cases hlt : i < n
      · rcases HF.out with h0 | ⟨g, m, fF, rfl, hg1, hrow, hm, hfa, hfb⟩
        · omega
        · have hx : i < xs.length := by rw [HN.out]; exact hlt
          have hr : i < rs.length := by rw [HM1.out, hxl.out.1]; exact hlt
          have hy : i < ys.length := by rw [HM2.out, hxl.out.2]; exact hlt
          obtain ⟨b1, off1, rfl, hb1, hc1'⟩ := HT.out.at1 hr
          have hc1 : wr.cell? ⟨b1, off1 + i, none⟩ = some (.int .i64 rs[i]) := (HB.out.cell (p := ⟨b1, off1 + i, none⟩) hb1).trans hc1'
          obtain ⟨b2, off2, rfl, hb2, hc2'⟩ := HS.out.at1 hy
          have hc2 : wr.cell? ⟨b2, off2 + i, none⟩ = some (.int .i64 ys[i]) := (HB.out.cell (p := ⟨b2, off2 + i, none⟩) hb2).trans hc2'
          have hd0 : wr.cell? ⟨g, i * 4, none⟩ = some (.int .i64 xs[i].a) := by rw [hrow.cell (i := i * 4) (by omega)]; have := hfa i hx (Nat.le_refl _) 0 (by omega); rw [Nat.add_zero] at this; rw [this]; rfl
          have hd1 : wr.cell? ⟨g, i * 4 + 1, none⟩ = some (.int .i64 xs[i].b) := by rw [hrow.cell (i := i * 4 + 1) (by omega)]; rw [hfa i hx (Nat.le_refl _) 1 (by omega)]; rfl
          have hff := hrow.frozen
          have hzg := hrow.lt
          have HRow := Lib.hid (And.intro hrow (And.intro hfa hfb)); clear hrow hfa hfb
          have hpo := HP.out.1.1.2 xs[i] (List.getElem_mem _)
          have hro := HP.out.2.2 rs[i] (List.getElem_mem _)
          have hyo := HP.out.1.2.2 i hx hy
          have hgt := rampL_get (xs := xs) (rs := rs) (ys := ys) hx hr hy
          unfold UniOk at hpo
          generalize hxx : xs[i] = x at hd0 hd1 hpo hyo hgt
          generalize hrr : rs[i] = r at hc1 hro hgt
          generalize hyy : ys[i] = y at hc2 hyo hgt
          have HX := Lib.hid (And.intro hxx (And.intro hrr hyy)); clear hxx hrr hyy
          have HGT := Lib.hid hgt; clear hgt
          obtain ⟨hp1, hp2, hp3, _⟩ := hpo
          obtain ⟨hr1, hr2⟩ := hro
          obtain ⟨hy1, hy2⟩ := hyo
          have hxx := hxl.out
          have hi1 : (i : Int) < (n : Int) := by omega
          have hi0 : (0 : Int) ≤ (i : Int) := by omega
          have hi2 : (i : Int) < (m1 : Int) := by omega
          have hi3 : (i : Int) < (m2 : Int) := by omega
          clear hxx
          have hne1 : g ≠ b1 := by omega
          have hne2 : g ≠ b2 := by omega
          have hw1 : IntKind.i64.wrap (y - r) = y - r := IntWalk.i64_in _ (by omega)
          have hw2 : IntKind.i64.wrap (y + r) = y + r := IntWalk.i64_in _ (by omega)
          have hmx : (∃ mx, mx = y - r ∧ max x.a (y - r) = mx ∧ x.a < y - r) ∨ (∃ mx, mx = x.a ∧ max x.a (y - r) = mx ∧ y - r ≤ x.a) := by
            rcases Int.lt_or_le x.a (y - r) with h | h
            · exact .inl ⟨_, rfl, by omega, h⟩
            · exact .inr ⟨_, rfl, by omega, h⟩
          have hmn : (∃ mn, mn = y + r ∧ min x.b (y + r) = mn ∧ y + r < x.b) ∨ (∃ mn, mn = x.b ∧ min x.b (y + r) = mn ∧ x.b ≤ y + r) := by
            rcases Int.lt_or_le (y + r) x.b with h | h
            · exact .inl ⟨_, rfl, by omega, h⟩
            · exact .inr ⟨_, rfl, by omega, h⟩
          clear hc1' hc2'
          have HZ : Hid (w.heap.size ≤ g) := by unfold Hid; omega
          have HNE : Hid (g ≠ b1 ∧ g ≠ b2) := ⟨hne1, hne2⟩
          clear hne1 hne2
          rcases hmx with ⟨mx, hme, hmx, q1⟩ | ⟨mx, hme, hmx, q1⟩ <;> rcases hmn with ⟨mn, hne, hmn, q2⟩ | ⟨mn, hne, hmn, q2⟩
          all_goals
            have HE := Lib.hid (And.intro hme hne)
            have HMX := Lib.hid (And.intro hmx hmn)
            clear hmx hmn hme hne
            go_wp2_with fail
            go_still_tail 19, (by kernel_rfl)
            go_wp2_with fail
            rw [← HE.out.1]
            have hrow2 := HRow.out.1.set (i * 4) (.int .i64 mx)
            have hB2 := HB.out.setCell (p := ⟨g, i * 4, none⟩) HZ.out (.int .i64 mx)
            have hc1 := (World.cell?_setCell_other wr ⟨g, i * 4, none⟩ ⟨b1, off1 + i, none⟩ (.int .i64 mx) (fun e => HNE.out.1 (congrArg Addr.block e))).trans hc1
            have hc2 := (World.cell?_setCell_other wr ⟨g, i * 4, none⟩ ⟨b2, off2 + i, none⟩ (.int .i64 mx) (fun e => HNE.out.2 (congrArg Addr.block e))).trans hc2
            have hd1 := (World.cell?_setCell_other wr ⟨g, i * 4, none⟩ ⟨g, i * 4 + 1, none⟩ (.int .i64 mx) (fun e => by injection e; omega)).trans hd1
            have hff := hrow2.frozen
            have hzg := hrow2.lt
            have HRow2 : Hid (World.rowIs (wr.setCell ⟨g, i * 4, none⟩ (.int .i64 mx)).drew g 27 m _) := hrow2
            have HB3 : Hid (Below w.heap.size w (wr.setCell ⟨g, i * 4, none⟩ (.int .i64 mx)).drew) := hB2.drew
            have hc1 : (wr.setCell ⟨g, i * 4, none⟩ (.int .i64 mx)).drew.cell? _ = _ := hc1
            have hc2 : (wr.setCell ⟨g, i * 4, none⟩ (.int .i64 mx)).drew.cell? _ = _ := hc2
            have hd1 : (wr.setCell ⟨g, i * 4, none⟩ (.int .i64 mx)).drew.cell? _ = _ := hd1
            have hff : ∀ q, (wr.setCell ⟨g, i * 4, none⟩ (.int .i64 mx)).drew.frozen? ⟨g, q, none⟩ = false := hff
            have hzg : g < (wr.setCell ⟨g, i * 4, none⟩ (.int .i64 mx)).drew.heap.size := hzg
            clear hrow2 hB2
            generalize (wr.setCell ⟨g, i * 4, none⟩ (.int .i64 mx)).drew = W at HRow2 HB3 hc1 hc2 hd1 hff hzg ⊢
            go_still_tail 19, (by kernel_rfl)
            go_wp2_with fail
            refine ⟨⟨i + 1, by go_num, by omega, .inr ⟨g, m, _, rfl, hg1, (HRow2.out.set (i * 4 + 1) _).drew, hm, fun j hj hij q hq => ?_, fun j x' hj hx' q hq => ?_⟩, (HB3.out.setCell (p := ⟨g, i * 4 + 1, none⟩) HZ.out _).drew⟩, by simp [intOf]; omega⟩
            · rw [if_neg (by omega), if_neg (by omega)]
              exact HRow.out.2.1 j hj (by omega) q hq
            · by_cases hji : j < i
              · rw [if_neg (by omega), if_neg (by omega)]
                exact HRow.out.2.2 j x' hji hx' q hq
              · have hjj : j = i := by omega
                subst hjj
                rw [HGT.out] at hx'
                injection hx' with hx'
                subst hx'
                have h4 : q = 0 ∨ q = 1 ∨ q = 2 ∨ q = 3 := by omega
                rcases h4 with rfl | rfl | rfl | rfl
                · rw [if_neg (by omega), if_pos (by omega)]
                  show _ = Value.int .i64 (max x.a (y - r))
                  rw [HMX.out.1]
                · rw [if_pos (by omega)]
                  show _ = Value.int .i64 (min x.b (y + r))
                  rw [HMX.out.2, HE.out.2]
                · rw [if_neg (by omega), if_neg (by omega), HRow.out.2.1 j hx (Nat.le_refl _) 2 (by omega), HX.out.1]; rfl
                · rw [if_neg (by omega), if_neg (by omega), HRow.out.2.1 j hx (Nat.le_refl _) 3 (by omega), HX.out.1]; rfl
      · clear HB2
        go_wp2
        go_ret
        have hll : (rampL xs rs ys).length = n := by rw [rampL_len HP.out.2.1 HP.out.1.2.1]; exact HN.out
        refine ⟨_, rfl, ?_, HB.out⟩
        rcases HF.out with h0 | ⟨g, m, fF, rfl, hg1, hrow, hm, hfa, hfb⟩
        · exact Res.empty hll.symm h0
        · exact Res.of_row (by omega) hrow hll.symm (by rw [hll]; exact hm) (fun j x hx q hq => hfb j x (by have := (List.getElem?_eq_some_iff.1 hx).1; omega) hx q hq)
  · have hv := rampB_f.2 hp
    have hO : rampOut xs rs ys = [] := by unfold rampOut; rw [if_neg (by rw [hv]; simp)]
    rw [hO]
    clear hO hp
    go_enter Tryd.func26, Tryd.ntmps26
    go_wp2_with fail; ((with_reducible refine (rampsValid_any A B C c d f xs rs ys w HR.out HT.out HS.out hl hl1 hl2).mono ?_); rintro e w1 ⟨rfl, hb_3⟩); have hz_3 := hb_3.size; (try simp only [World.size_alloc, World.size_setCell, World.size_drew] at hz_3)
    go_wp2
    go_ret
    exact ⟨_, rfl, Res.empty rfl rfl, hb_3⟩
end Go.Proofs.YtcpopbkcphpdfaaDoor
