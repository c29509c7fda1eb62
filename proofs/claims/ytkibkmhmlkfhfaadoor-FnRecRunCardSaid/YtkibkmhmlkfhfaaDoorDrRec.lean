/- Drawing a recloser. -/
import Derived.Test.YtkibkmhmlkfhfaaDoorDrB
import Derived.Test.YtkibkmhmlkfhfaaDoorRecB
import Derived.Deep.DeepCutAuto
import Derived.Deep.CutBlock
import Derived.Deep.RegionWith
namespace Go.Proofs.YtkibkmhmlkfhfaaDoor
open Go.RowKit Go.Deep
set_option linter.unusedSimpArgs false
set_option linter.unusedVariables false

theorem recStep_P {a b c d : Int} (f : Bool) (h : RecP a b c d) : RecP (recStep a b c d f).a (recStep a b c d f).b (recStep a b c d f).c (recStep a b c d f).d := by
  cases f
  · have hl := recStep_lin_f h
    generalize recStep a b c d false = r at *
    unfold RecP at *; omega
  · have hl := recStep_lin_t h
    generalize recStep a b c d true = r at *
    unfold RecP at *; omega

/-- A recloser of small numbers was drawn. -/
def SmallR (a b c d : Int) : Prop := (-1 ≤ a ∧ a ≤ 10) ∧ (-1 ≤ b ∧ b ≤ 10) ∧ (-1 ≤ c ∧ c ≤ 10) ∧ (-1 ≤ d ∧ d ≤ 10)
theorem RecP.small {a b c d : Int} (h : RecP a b c d) : SmallR a b c d := by unfold RecP at h; unfold SmallR; omega
def DrawnR (g : Nat) (P : Int) (w : World) (e : Ending) (w' : World) : Prop :=
  ∃ a b c d : Int, e = .returned (.agg #[.int .i64 a, .int .i64 b, .int .i64 c, .int .i64 d]) ∧ SmallR a b c d ∧ RdOk 54 w' g (P + 40) ∧ Chg g w w'

set_option maxHeartbeats 4000000 in
theorem l20Recloser_any (g : Nat) (P n : Int) (w : World) (hr : RdOk 54 w g P) (hP : P ≤ 900000) (hn : n ≤ 1000) (hn0 : 0 ≤ n) :
    Calls Tryd.prog 24 #[.pointer (some ⟨g, 0, none⟩), .int .i64 n] w (DrawnR g P w) := by
  have hgl := hr.lt
  have HR := Lib.hid hr; clear hr
  go_enter Tryd.func24, Tryd.ntmps24
  go_wp2_with fail; ((with_reducible refine (pick_any g (P) 24 _ ((HR.out.alloc _).alloc _) (by omega) (by omega)).mono ?_); rintro e w1 ⟨k0, rfl, h0k0, h1k0, hr_w1, hc_w1⟩); have cB0_w1 := Chg.cell hc_w1 (b := w.heap.size) (by go_size) (by omega); have fB0_w1 := Chg.frozen hc_w1 (b := w.heap.size) (by go_size) (by omega); have zB0_w1 : w.heap.size < w1.heap.size := Nat.lt_of_lt_of_le (by go_size) hc_w1.size; have cB1_w1 := Chg.cell hc_w1 (b := w.heap.size + 1) (by go_size) (by omega); have fB1_w1 := Chg.frozen hc_w1 (b := w.heap.size + 1) (by go_size) (by omega); have zB1_w1 : w.heap.size + 1 < w1.heap.size := Nat.lt_of_lt_of_le (by go_size) hc_w1.size; have hz_w1 := hc_w1.size; (try simp only [World.size_alloc, World.size_setCell, World.size_drew] at hz_w1); have HR_w1 := Lib.hid hr_w1; have HC_w1 := Lib.hid hc_w1; clear hr_w1 hc_w1
  go_wp2_with fail
  have K0 := HC_w1.out.bk ((Bk.new w 24 #[.int .i64 0, .int .i64 0, .int .i64 0, .int .i64 0]).alloc (.cells #[Value.int .i64 0, .int .i64 0, .int .i64 0, .int .i64 0] 24)) (by omega)
  have K1 := HC_w1.out.bk (Bk.new_at (w.alloc (.cells #[.int .i64 0, .int .i64 0, .int .i64 0, .int .i64 0] 24)) 24 #[.int .i64 0, .int .i64 0, .int .i64 0, .int .i64 0] (g := w.heap.size + 1) (by simp)) (by omega)
  have HK := Lib.hid (And.intro K0 K1); clear K0 K1
  have HC0 := Lib.hid ((((Chg.refl g w).alloc _).alloc _).trans HC_w1.out)
  clear cB0_w1 fB0_w1 zB0_w1 cB1_w1 fB1_w1 zB1_w1
  go_loopw [6] (fun t wr => ∃ (k a b c d : Int), t = .int .i64 k ∧ 0 ≤ k ∧ k ≤ 24 ∧ Hid (RecP a b c d) ∧ Hid (RdOk 54 wr g (P + 25 - k)) ∧ Hid (Chg g w wr) ∧
      Hid (Bk wr w.heap.size 24 #[.int .i64 0, .int .i64 0, .int .i64 0, .int .i64 0] ∧ Bk wr (w.heap.size + 1) 24 #[.int .i64 a, .int .i64 b, .int .i64 c, .int .i64 d])) (fun t _ => (intOf t).toNat)
  case atStart => exact ⟨k0, 0, 0, 0, 0, rfl, h0k0, by omega, (by unfold Hid RecP; omega), HR_w1.out.more (by omega), HC0, HK⟩
  case round =>
    obtain ⟨k, a, b, c, d, rfl, hk0, hk1, HP, HR2, HC, HK2⟩ := hrel
    have cB0 := HK2.out.1.cell
    have fB0 := HK2.out.1.frozen
    have cB1 := HK2.out.2.cell
    have fB1 := HK2.out.2.frozen
    have hz1 := HK2.out.2.lt
    have hz0 : w.heap.size < wr.heap.size := by omega
    by_cases hk : 0 < k
    · have c0 : wr.cell? ⟨w.heap.size + 1, 0, none⟩ = some (.int .i64 a) := cB1 0
      have c1 : wr.cell? ⟨w.heap.size + 1, 1, none⟩ = some (.int .i64 b) := cB1 1
      have c2 : wr.cell? ⟨w.heap.size + 1, 2, none⟩ = some (.int .i64 c) := cB1 2
      have c3 : wr.cell? ⟨w.heap.size + 1, 3, none⟩ = some (.int .i64 d) := cB1 3
      have hgz := HR2.out.lt
      go_upto_block 1 with fail
      go_cut [] (fun wx => ∃ (a' b' c' d' : Int), Hid (RecP a' b' c' d') ∧ Hid (RdOk 54 wx g (P + 26 - k)) ∧ Hid (Chg g w wx) ∧
        Hid (Bk wx w.heap.size 24 #[.int .i64 0, .int .i64 0, .int .i64 0, .int .i64 0] ∧ Bk wx (w.heap.size + 1) 24 #[.int .i64 a', .int .i64 b', .int .i64 c', .int .i64 d']))
      case first =>
        go_wp2_with fail
        go_region_with (first
          | (go_at_call 29; refine (pick_any g (P + 25 - k) 3 _ (HR2.out.below (Below.drew (Below.refl _ _))) (by omega) (by omega)).mono ?_; rintro e w2 ⟨v, rfl, h0v, h1v, hr2, hc2⟩; have cB2 := Chg.cell hc2 (b := w.heap.size + 1) (by go_size) (by omega); have fB2 := Chg.frozen hc2 (b := w.heap.size + 1) (by go_size) (by omega); have zB2 : w.heap.size + 1 < w2.heap.size := Nat.lt_of_lt_of_le (by go_size) hc2.size)
          | (go_at_call 14; refine (specRecStep_any _ _ _ _ _ _).mono ?_; rintro e w3 ⟨rfl, hb3⟩; have cB3 := keepB hb3 (g := w.heap.size + 1) (by go_size); have fB3 := keepF hb3 (g := w.heap.size + 1) (by go_size)))
        all_goals
          go_wp2_with fail
          go_meet
          have hcw := HC.out.trans hc2.undrew
          have hsp := recStep_P (decide (0 < v)) HP.out
          exact ⟨_, _, _, _, hsp, ((hr2.below hb3).set4n (by omega)).more (by omega), ((hcw.trans (Chg.of_below hb3)).set4n (by omega)), ⟨((hc2.undrew.bk HK2.out.1 (by omega)).keep hb3).far4 (by omega), ((hc2.undrew.bk HK2.out.2 (by omega)).keep hb3).set4⟩⟩
      case rest =>
        obtain ⟨a', b', c', d', HP', HR', HC', HK'⟩ := hcut
        go_wp2_with fail
        exact ⟨⟨k - 1, a', b', c', d', rfl, by omega, by omega, HP', HR'.out.more (by omega), HC', HK'⟩, by simp [intOf]; omega⟩
    · have hgz := HR2.out.lt
      have hk' : k ≤ 0 := by omega
      have hodd := odd_any g (P + 25 - k) n wr HR2.out (by omega) (by omega) hn0
      go_wp2_with fail
      refine hodd.mono ?_
      clear hodd
      rintro e w2 ⟨bo, rfl, hr2, hc2⟩
      have cB0_w2 := Chg.cell hc2 (b := w.heap.size) (by omega) (by omega)
      have fB0_w2 := Chg.frozen hc2 (b := w.heap.size) (by omega) (by omega)
      have cB1_w2 := Chg.cell hc2 (b := w.heap.size + 1) (by omega) (by omega)
      have fB1_w2 := Chg.frozen hc2 (b := w.heap.size + 1) (by omega) (by omega)
      have hz_w2 := hc2.size
      have hzz2 : w.heap.size + 1 < w2.heap.size := by omega
      have HR_w2 := Lib.hid hr2
      have HC_w2 := Lib.hid (HC.out.trans hc2)
      have HKW2 := Lib.hid (And.intro (hc2.bk HK2.out.1 (by omega)) (hc2.bk HK2.out.2 (by omega)))
      clear hr2 hc2 cB0 fB0 cB1 fB1
      go_upto_if 21 with fail
      go_cut [] (fun wx => ∃ (a' b' c' d' : Int), Hid (SmallR a' b' c' d') ∧ Hid (RdOk 54 wx g (P + 40)) ∧ Hid (Chg g w wx) ∧ Hid (Bk wx w.heap.size 24 #[.int .i64 0, .int .i64 0, .int .i64 0, .int .i64 0] ∧ Bk wx (w.heap.size + 1) 24 #[.int .i64 a', .int .i64 b', .int .i64 c', .int .i64 d']))
      case first =>
        cases bo
        · go_wp2_with fail
          go_meet
          have hsm := HP.out.small
          unfold SmallR at hsm
          exact ⟨a, b, c, d, (by unfold Hid SmallR; omega), HR_w2.out.more (by omega), HC_w2.out, ⟨(HKW2.out.1), (HKW2.out.2)⟩⟩
        · have cB1 := HKW2.out.2.cell
          have fB1 := HKW2.out.2.frozen
          clear cB0_w2 fB0_w2 cB1_w2 fB1_w2
          go_wp2_with fail; ((with_reducible refine (pick_any g (P + 25 - k + 1) 4 _ (HR_w2.out) (by omega) (by omega)).mono ?_); rintro e w3 ⟨v, rfl, h0v, h1v, hr_w3, hc_w3⟩); have cB0_w3 := Chg.cell hc_w3 (b := w.heap.size + 1) (by go_size) (by omega); have fB0_w3 := Chg.frozen hc_w3 (b := w.heap.size + 1) (by go_size) (by omega); have zB0_w3 : w.heap.size + 1 < w3.heap.size := Nat.lt_of_lt_of_le (by go_size) hc_w3.size; have hz_w3 := hc_w3.size; (try simp only [World.size_alloc, World.size_setCell, World.size_drew] at hz_w3); have HR_w3 := Lib.hid hr_w3; have HC_w3 := Lib.hid hc_w3; clear hr_w3 hc_w3
          have HCC := Lib.hid (HC_w2.out.trans HC_w3.out)
          have HKW3 := Lib.hid (And.intro (HC_w3.out.bk HKW2.out.1 (by omega)) (HC_w3.out.bk HKW2.out.2 (by omega)))
          have hv4 : v = 0 ∨ v = 1 ∨ v = 2 ∨ v = 3 := by omega
          rcases hv4 with rfl | rfl | rfl | rfl
          · go_wp2_with fail; ((with_reducible refine (pick_any g (P + 25 - k + 1 + 1) 2 _ (HR_w3.out.alloc _) (by omega) (by omega)).mono ?_); rintro e w4 ⟨u, rfl, h0u, h1u, hr_w4, hc_w4⟩); have cB0_w4 := Chg.cell hc_w4 (b := w.heap.size + 1) (by go_size) (by omega); have fB0_w4 := Chg.frozen hc_w4 (b := w.heap.size + 1) (by go_size) (by omega); have zB0_w4 : w.heap.size + 1 < w4.heap.size := Nat.lt_of_lt_of_le (by go_size) hc_w4.size; have cB1_w4 := Chg.cell hc_w4 (b := w3.heap.size) (by go_size) (by omega); have fB1_w4 := Chg.frozen hc_w4 (b := w3.heap.size) (by go_size) (by omega); have zB1_w4 : w3.heap.size < w4.heap.size := Nat.lt_of_lt_of_le (by go_size) hc_w4.size; have hz_w4 := hc_w4.size; (try simp only [World.size_alloc, World.size_setCell, World.size_drew] at hz_w4); have HR_w4 := Lib.hid hr_w4; have HC_w4 := Lib.hid hc_w4; clear hr_w4 hc_w4
            have HCD := Lib.hid ((HCC.out.alloc _).trans HC_w4.out)
            have HKW4 := Lib.hid (And.intro (HC_w4.out.bk (HKW3.out.1.alloc _) (by omega)) (HC_w4.out.bk (HKW3.out.2.alloc _) (by omega)))
            have hu : u = 0 ∨ u = 1 := by omega
            rcases hu with rfl | rfl
            · go_wp2_with fail
              go_meet
              have hsm := HP.out.small
              unfold SmallR at hsm
              exact ⟨-1, b, c, d, (by unfold Hid SmallR; omega), ((HR_w4.out.set_new (by omega) _).more (by omega)), HCD.out.set_new (by omega) _, ⟨(HKW4.out.1).far (p := ⟨w.heap.size + 1, 0, none⟩) (by simp) _, by have hk := (HKW4.out.2).set 0 (.int .i64 (-1)); simpa using hk⟩⟩
            · go_wp2_with fail
              go_meet
              have hsm := HP.out.small
              unfold SmallR at hsm
              exact ⟨3, b, c, d, (by unfold Hid SmallR; omega), ((HR_w4.out.set_new (by omega) _).more (by omega)), HCD.out.set_new (by omega) _, ⟨(HKW4.out.1).far (p := ⟨w.heap.size + 1, 0, none⟩) (by simp) _, by have hk := (HKW4.out.2).set 0 (.int .i64 (3)); simpa using hk⟩⟩
          · go_wp2_with fail; ((with_reducible refine (pick_any g (P + 25 - k + 1 + 1) 3 _ (HR_w3.out.alloc _) (by omega) (by omega)).mono ?_); rintro e w4 ⟨u, rfl, h0u, h1u, hr_w4, hc_w4⟩); have cB0_w4 := Chg.cell hc_w4 (b := w.heap.size + 1) (by go_size) (by omega); have fB0_w4 := Chg.frozen hc_w4 (b := w.heap.size + 1) (by go_size) (by omega); have zB0_w4 : w.heap.size + 1 < w4.heap.size := Nat.lt_of_lt_of_le (by go_size) hc_w4.size; have cB1_w4 := Chg.cell hc_w4 (b := w3.heap.size) (by go_size) (by omega); have fB1_w4 := Chg.frozen hc_w4 (b := w3.heap.size) (by go_size) (by omega); have zB1_w4 : w3.heap.size < w4.heap.size := Nat.lt_of_lt_of_le (by go_size) hc_w4.size; have hz_w4 := hc_w4.size; (try simp only [World.size_alloc, World.size_setCell, World.size_drew] at hz_w4); have HR_w4 := Lib.hid hr_w4; have HC_w4 := Lib.hid hc_w4; clear hr_w4 hc_w4
            have HCD := Lib.hid ((HCC.out.alloc _).trans HC_w4.out)
            have HKW4 := Lib.hid (And.intro (HC_w4.out.bk (HKW3.out.1.alloc _) (by omega)) (HC_w4.out.bk (HKW3.out.2.alloc _) (by omega)))
            have hu : u = 0 ∨ u = 1 ∨ u = 2 := by omega
            rcases hu with rfl | rfl | rfl
            · go_wp2_with fail
              go_meet
              have hsm := HP.out.small
              unfold SmallR at hsm
              exact ⟨a, -1, c, d, (by unfold Hid SmallR; omega), ((HR_w4.out.set_new (by omega) _).more (by omega)), HCD.out.set_new (by omega) _, ⟨(HKW4.out.1).far (p := ⟨w.heap.size + 1, 1, none⟩) (by simp) _, by have hk := (HKW4.out.2).set 1 (.int .i64 (-1)); simpa using hk⟩⟩
            · go_wp2_with fail
              go_meet
              have hsm := HP.out.small
              unfold SmallR at hsm
              exact ⟨a, 4, c, d, (by unfold Hid SmallR; omega), ((HR_w4.out.set_new (by omega) _).more (by omega)), HCD.out.set_new (by omega) _, ⟨(HKW4.out.1).far (p := ⟨w.heap.size + 1, 1, none⟩) (by simp) _, by have hk := (HKW4.out.2).set 1 (.int .i64 (4)); simpa using hk⟩⟩
            · go_wp2_with fail
              go_meet
              have hsm := HP.out.small
              unfold SmallR at hsm
              exact ⟨a, 0, c, d, (by unfold Hid SmallR; omega), ((HR_w4.out.set_new (by omega) _).more (by omega)), HCD.out.set_new (by omega) _, ⟨(HKW4.out.1).far (p := ⟨w.heap.size + 1, 1, none⟩) (by simp) _, by have hk := (HKW4.out.2).set 1 (.int .i64 (0)); simpa using hk⟩⟩
          · go_wp2_with fail; ((with_reducible refine (pick_any g (P + 25 - k + 1 + 1) 8 _ (HR_w3.out) (by omega) (by omega)).mono ?_); rintro e w4 ⟨u, rfl, h0u, h1u, hr_w4, hc_w4⟩); have cB0_w4 := Chg.cell hc_w4 (b := w.heap.size + 1) (by go_size) (by omega); have fB0_w4 := Chg.frozen hc_w4 (b := w.heap.size + 1) (by go_size) (by omega); have zB0_w4 : w.heap.size + 1 < w4.heap.size := Nat.lt_of_lt_of_le (by go_size) hc_w4.size; have hz_w4 := hc_w4.size; (try simp only [World.size_alloc, World.size_setCell, World.size_drew] at hz_w4); have HR_w4 := Lib.hid hr_w4; have HC_w4 := Lib.hid hc_w4; clear hr_w4 hc_w4
            have HCD := Lib.hid (HCC.out.trans HC_w4.out)
            have HKW4 := Lib.hid (And.intro (HC_w4.out.bk HKW3.out.1 (by omega)) (HC_w4.out.bk HKW3.out.2 (by omega)))
            go_wp2_with fail
            go_meet
            have hsm := HP.out.small
            unfold SmallR at hsm
            exact ⟨a, b, u - 1, d, (by unfold Hid SmallR; omega), ((HR_w4.out.set_new (by omega) _).more (by omega)), HCD.out.set_new (by omega) _, ⟨(HKW4.out.1).far (p := ⟨w.heap.size + 1, 2, none⟩) (by simp) _, by have hk := (HKW4.out.2).set 2 (.int .i64 (u - 1)); simpa using hk⟩⟩
          · go_wp2_with fail; ((with_reducible refine (pick_any g (P + 25 - k + 1 + 1) 8 _ (HR_w3.out) (by omega) (by omega)).mono ?_); rintro e w4 ⟨u, rfl, h0u, h1u, hr_w4, hc_w4⟩); have cB0_w4 := Chg.cell hc_w4 (b := w.heap.size + 1) (by go_size) (by omega); have fB0_w4 := Chg.frozen hc_w4 (b := w.heap.size + 1) (by go_size) (by omega); have zB0_w4 : w.heap.size + 1 < w4.heap.size := Nat.lt_of_lt_of_le (by go_size) hc_w4.size; have hz_w4 := hc_w4.size; (try simp only [World.size_alloc, World.size_setCell, World.size_drew] at hz_w4); have HR_w4 := Lib.hid hr_w4; have HC_w4 := Lib.hid hc_w4; clear hr_w4 hc_w4
            have HCD := Lib.hid (HCC.out.trans HC_w4.out)
            have HKW4 := Lib.hid (And.intro (HC_w4.out.bk HKW3.out.1 (by omega)) (HC_w4.out.bk HKW3.out.2 (by omega)))
            go_wp2_with fail
            go_meet
            have hsm := HP.out.small
            unfold SmallR at hsm
            exact ⟨a, b, c, u - 1, (by unfold Hid SmallR; omega), ((HR_w4.out.set_new (by omega) _).more (by omega)), HCD.out.set_new (by omega) _, ⟨(HKW4.out.1).far (p := ⟨w.heap.size + 1, 3, none⟩) (by simp) _, by have hk := (HKW4.out.2).set 3 (.int .i64 (u - 1)); simpa using hk⟩⟩
      case rest =>
        obtain ⟨a', b', c', d', HS', HR', HC', HK'⟩ := hcut
        clear cB0_w2 fB0_w2 cB1_w2 fB1_w2
        have cB0 := HK'.out.1.cell
        have fB0 := HK'.out.1.frozen
        have cB1 := HK'.out.2.cell
        go_wp2_with fail
        refine bodyPost_ret (by simp [results, Tryd.results24, go_sem, cB0]; try rfl) rfl ?_
        exact ⟨_, _, _, _, rfl, HS'.out, HR'.out.set4n (by omega), HC'.out.set4n (by omega)⟩
end Go.Proofs.YtkibkmhmlkfhfaaDoor
