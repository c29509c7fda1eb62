/- Drawing relays, currents and ranges. -/
import Derived.Test.YtkndokcpnlbipaaDoorRlP
import Derived.Test.YtkndokcpnlbipaaDoorDrL
import Derived.Deep.DeepCutAuto
namespace Go.Proofs.YtkndokcpnlbipaaDoor
open Go.RowKit Go.Deep
set_option linter.unusedSimpArgs false
set_option linter.unusedVariables false
def SmR (p d : Int) : Prop := 0 ≤ p ∧ p ≤ 401 ∧ 0 ≤ d ∧ d ≤ 61
def DrawnRl (g : Nat) (P : Int) (w : World) (e : Ending) (w' : World) : Prop := ∃ p d : Int, e = .returned (.agg #[.int .i64 p, .int .i64 d]) ∧ SmR p d ∧ RdOk 64 w' g (P + 10) ∧ Chg g w w'
def DrawnI (g : Nat) (P lo hi : Int) (w : World) (e : Ending) (w' : World) : Prop := ∃ v : Int, e = .returned (.int .i64 v) ∧ lo ≤ v ∧ v ≤ hi ∧ RdOk 64 w' g (P + 10) ∧ Chg g w w'
theorem l20Current_any (g : Nat) (P : Int) (w : World) (hr : RdOk 64 w g P) (hP : P ≤ 900000) :
    Calls Tryd.prog 33 #[.pointer (some ⟨g, 0, none⟩)] w (DrawnI g P (-1) 401 w) := by
  have hgl := hr.lt
  have HR := Lib.hid hr; clear hr
  go_enter Tryd.func33, Tryd.ntmps33
  go_wp2_with fail; ((with_reducible refine (pick_any g (P) 256 _ (HR.out) (by omega) (by omega)).mono ?_); rintro e w1 ⟨v1, rfl, h0v1, h1v1, hr_w1, hc_w1⟩); have hz_w1 := hc_w1.size; (try simp only [World.size_alloc, World.size_setCell, World.size_drew] at hz_w1); have HR_w1 := Lib.hid hr_w1; have HC_w1 := Lib.hid hc_w1; clear hr_w1 hc_w1
  go_wp2_with fail; ((with_reducible refine (pick_any g (P + 1) 2 _ (HR_w1.out) (by omega) (by omega)).mono ?_); rintro e w2 ⟨v2, rfl, h0v2, h1v2, hr_w2, hc_w2⟩); have hz_w2 := hc_w2.size; (try simp only [World.size_alloc, World.size_setCell, World.size_drew] at hz_w2); have HR_w2 := Lib.hid hr_w2; have HC_w2 := Lib.hid hc_w2; clear hr_w2 hc_w2
  go_wp2_with fail; ((with_reducible refine (pick_any g (P + 1 + 1) 16 _ (HR_w2.out) (by omega) (by omega)).mono ?_); rintro e w3 ⟨v3, rfl, h0v3, h1v3, hr_w3, hc_w3⟩); have hz_w3 := hc_w3.size; (try simp only [World.size_alloc, World.size_setCell, World.size_drew] at hz_w3); have HR_w3 := Lib.hid hr_w3; have HC_w3 := Lib.hid hc_w3; clear hr_w3 hc_w3
  have hd : v3.tdiv 15 = v3 / 15 := Int.tdiv_eq_ediv_of_nonneg (by omega)
  have hd0 : 0 ≤ v3 / 15 ∧ v3 / 15 ≤ 1 := by omega
  obtain ⟨hd1, hd2⟩ := hd0
  generalize v3 / 15 = q at *
  go_wp2_with fail
  go_ret
  exact ⟨_, rfl, by omega, by omega, HR_w3.out.more (by omega), (HC_w1.out.trans HC_w2.out).trans HC_w3.out⟩
set_option maxHeartbeats 2000000 in
theorem l20Relay_any (g : Nat) (P n : Int) (w : World) (hr : RdOk 64 w g P) (hP : P ≤ 900000) (hn : n ≤ 1000) (hn0 : 0 ≤ n) :
    Calls Tryd.prog 31 #[.pointer (some ⟨g, 0, none⟩), .int .i64 n] w (DrawnRl g P w) := by
  have hgl := hr.lt
  have HR := Lib.hid hr; clear hr
  go_enter Tryd.func31, Tryd.ntmps31
  go_wp2_with fail; ((with_reducible refine (pick_any g (P) 120 _ (HR.out.alloc _) (by omega) (by omega)).mono ?_); rintro e w1 ⟨v1, rfl, h0v1, h1v1, hr_w1, hc_w1⟩); have cB0_w1 := Chg.cell hc_w1 (b := w.heap.size) (by go_size) (by omega); have fB0_w1 := Chg.frozen hc_w1 (b := w.heap.size) (by go_size) (by omega); have zB0_w1 : w.heap.size < w1.heap.size := Nat.lt_of_lt_of_le (by go_size) hc_w1.size; have hz_w1 := hc_w1.size; (try simp only [World.size_alloc, World.size_setCell, World.size_drew] at hz_w1); have HR_w1 := Lib.hid hr_w1; have HC_w1 := Lib.hid hc_w1; clear hr_w1 hc_w1
  go_wp2_with fail; ((with_reducible refine (pick_any g (P + 1) 60 _ (HR_w1.out) (by omega) (by omega)).mono ?_); rintro e w2 ⟨v2, rfl, h0v2, h1v2, hr_w2, hc_w2⟩); have cB0_w2 := Chg.cell hc_w2 (b := w.heap.size) (by go_size) (by omega); have fB0_w2 := Chg.frozen hc_w2 (b := w.heap.size) (by go_size) (by omega); have zB0_w2 : w.heap.size < w2.heap.size := Nat.lt_of_lt_of_le (by go_size) hc_w2.size; have hz_w2 := hc_w2.size; (try simp only [World.size_alloc, World.size_setCell, World.size_drew] at hz_w2); have HR_w2 := Lib.hid hr_w2; have HC_w2 := Lib.hid hc_w2; clear hr_w2 hc_w2
  have HC2 : Hid (Chg g w w2) := (((Chg.refl g w).alloc _).trans HC_w1.out).trans HC_w2.out
  have K0 : Hid (Bk w2 w.heap.size 24 #[.int .i64 0, .int .i64 0]) := HC_w2.out.bk (HC_w1.out.bk (Bk.new w _ _) (by omega)) (by omega)
  have hz2 := HC2.out.size
  have hgz2 : g < w2.heap.size := by omega
  clear cB0_w1 fB0_w1 zB0_w1 cB0_w2 fB0_w2 zB0_w2 HC_w1 HC_w2 HR_w1
  have hodd := odd_any g (P + 1 + 1) n (w2.alloc (.cells #[.int .i64 (1 + v1), .int .i64 (1 + v2)] 24)) (HR_w2.out.alloc _) (by omega) (by omega) hn0
  have HODD := Lib.hid hodd; clear hodd
  go_wp2_with fail
  refine HODD.out.mono ?_
  clear HODD
  rintro e w3 ⟨bo, rfl, hr3, hc3⟩
  have HR3 := Lib.hid hr3
  have HC3 : Hid (Chg g w w3) := (HC2.out.alloc _).trans hc3
  have hzk := K0.out.lt
  have K1 : Hid (Bk w3 w.heap.size 24 #[.int .i64 0, .int .i64 0]) := hc3.bk (K0.out.alloc _) (by omega)
  have K2 : Hid (Bk w3 w2.heap.size 24 #[.int .i64 (1 + v1), .int .i64 (1 + v2)]) := hc3.bk (Bk.new w2 _ _) (by omega)
  clear hr3 hc3 K0 HC2
  have hz3 := K2.out.lt
  cases bo with
  | false =>
    have cB1 := K1.out.cell
    have fB1 := K1.out.frozen
    have cB2 := K2.out.cell
    go_wp2_with fail
    refine bodyPost_ret (by simp [results, Tryd.results31, go_sem, cB1]; try rfl) rfl ?_
    exact ⟨_, _, rfl, by unfold SmR; omega, ((HR3.out.set_new (by omega) _).set_new (by omega) _).more (by omega), (HC3.out.set_new (by omega) _).set_new (by omega) _⟩
  | true =>
    go_wp2_with fail; ((with_reducible refine (pick_any g (P + 1 + 1 + 1) 2 _ (HR3.out) (by omega) (by omega)).mono ?_); rintro e w4 ⟨v3, rfl, h0v3, h1v3, hr_w4, hc_w4⟩); have hz_w4 := hc_w4.size; (try simp only [World.size_alloc, World.size_setCell, World.size_drew] at hz_w4); have HR_w4 := Lib.hid hr_w4; have HC_w4 := Lib.hid hc_w4; clear hr_w4 hc_w4
    have HC4 : Hid (Chg g w w4) := HC3.out.trans HC_w4.out
    have K1b := Lib.hid (HC_w4.out.bk K1.out (by omega))
    have K2b := Lib.hid (HC_w4.out.bk K2.out (by omega))
    clear HC_w4 HC3 K1 K2 HR3
    have hz4 := K2b.out.lt
    have hz4' := HC4.out.size
    have hgz4 : g < w4.heap.size := by omega
    by_cases hv3 : v3 = 0
    · have e3 : (v3 == 0) = true := by simp [hv3]
      clear hv3
      go_wp2_with fail; ((with_reducible refine (pick_any g (P + 1 + 1 + 1 + 1) 2 _ (HR_w4.out.alloc _) (by omega) (by omega)).mono ?_); rintro e w5 ⟨v4, rfl, h0v4, h1v4, hr_w5, hc_w5⟩); have cB0_w5 := Chg.cell hc_w5 (b := w4.heap.size) (by go_size) (by omega); have fB0_w5 := Chg.frozen hc_w5 (b := w4.heap.size) (by go_size) (by omega); have zB0_w5 : w4.heap.size < w5.heap.size := Nat.lt_of_lt_of_le (by go_size) hc_w5.size; have hz_w5 := hc_w5.size; (try simp only [World.size_alloc, World.size_setCell, World.size_drew] at hz_w5); have HR_w5 := Lib.hid hr_w5; have HC_w5 := Lib.hid hc_w5; clear hr_w5 hc_w5
      have HC5 : Hid (Chg g w w5) := (HC4.out.alloc _).trans HC_w5.out
      have K1c := Lib.hid (HC_w5.out.bk (K1b.out.alloc _) (by omega))
      have K2c := Lib.hid (HC_w5.out.bk (K2b.out.alloc _) (by omega))
      have cB1 := K1c.out.cell
      have fB1 := K1c.out.frozen
      have cB2 := K2c.out.cell
      have fB2 := K2c.out.frozen
      have hz5 := K2c.out.lt
      have hne1 : ¬ w2.heap.size = w4.heap.size := by omega
      have hne2 : ¬ w.heap.size = w2.heap.size := by omega
      have hv4 : v4 = 0 ∨ v4 = 1 := by omega
      rcases hv4 with rfl | rfl
      · go_wp2_with fail
        refine bodyPost_ret (by simp [results, Tryd.results31, go_sem, cB1]; try rfl) rfl ?_
        exact ⟨_, _, rfl, by unfold SmR; omega, (((HR_w5.out.set_new (by omega) _).set_new (by omega) _).set_new (by omega) _).more (by omega), ((HC5.out.set_new (by omega) _).set_new (by omega) _).set_new (by omega) _⟩
      · go_wp2_with fail
        refine bodyPost_ret (by simp [results, Tryd.results31, go_sem, cB1]; try rfl) rfl ?_
        exact ⟨_, _, rfl, by unfold SmR; omega, (((HR_w5.out.set_new (by omega) _).set_new (by omega) _).set_new (by omega) _).more (by omega), ((HC5.out.set_new (by omega) _).set_new (by omega) _).set_new (by omega) _⟩
    · have e3 : (v3 == 0) = false := by simp [hv3]
      clear hv3
      go_wp2_with fail; ((with_reducible refine (pick_any g (P + 1 + 1 + 1 + 1) 2 _ (HR_w4.out.alloc _) (by omega) (by omega)).mono ?_); rintro e w5 ⟨v4, rfl, h0v4, h1v4, hr_w5, hc_w5⟩); have cB0_w5 := Chg.cell hc_w5 (b := w4.heap.size) (by go_size) (by omega); have fB0_w5 := Chg.frozen hc_w5 (b := w4.heap.size) (by go_size) (by omega); have zB0_w5 : w4.heap.size < w5.heap.size := Nat.lt_of_lt_of_le (by go_size) hc_w5.size; have hz_w5 := hc_w5.size; (try simp only [World.size_alloc, World.size_setCell, World.size_drew] at hz_w5); have HR_w5 := Lib.hid hr_w5; have HC_w5 := Lib.hid hc_w5; clear hr_w5 hc_w5
      have HC5 : Hid (Chg g w w5) := (HC4.out.alloc _).trans HC_w5.out
      have K1c := Lib.hid (HC_w5.out.bk (K1b.out.alloc _) (by omega))
      have K2c := Lib.hid (HC_w5.out.bk (K2b.out.alloc _) (by omega))
      have cB1 := K1c.out.cell
      have fB1 := K1c.out.frozen
      have cB2 := K2c.out.cell
      have fB2 := K2c.out.frozen
      have hz5 := K2c.out.lt
      have hne1 : ¬ w2.heap.size = w4.heap.size := by omega
      have hne2 : ¬ w.heap.size = w2.heap.size := by omega
      have hv4 : v4 = 0 ∨ v4 = 1 := by omega
      rcases hv4 with rfl | rfl
      · go_wp2_with fail
        refine bodyPost_ret (by simp [results, Tryd.results31, go_sem, cB1]; try rfl) rfl ?_
        exact ⟨_, _, rfl, by unfold SmR; omega, (((HR_w5.out.set_new (by omega) _).set_new (by omega) _).set_new (by omega) _).more (by omega), ((HC5.out.set_new (by omega) _).set_new (by omega) _).set_new (by omega) _⟩
      · go_wp2_with fail
        refine bodyPost_ret (by simp [results, Tryd.results31, go_sem, cB1]; try rfl) rfl ?_
        exact ⟨_, _, rfl, by unfold SmR; omega, (((HR_w5.out.set_new (by omega) _).set_new (by omega) _).set_new (by omega) _).more (by omega), ((HC5.out.set_new (by omega) _).set_new (by omega) _).set_new (by omega) _⟩
end Go.Proofs.YtkndokcpnlbipaaDoor
