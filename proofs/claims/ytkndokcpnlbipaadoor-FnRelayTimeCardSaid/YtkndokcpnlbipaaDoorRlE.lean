/- The laws FnRelayTime and FnCurrentFor: draws and walks. -/
import Derived.Test.YtkndokcpnlbipaaDoorRlA
import Derived.Test.YtkndokcpnlbipaaDoorRlD
import Derived.Test.YtkndokcpnlbipaaDoorAlive
import Derived.Deep.RegionHeld3
namespace Go.Proofs.YtkndokcpnlbipaaDoor
open Go.RowKit Go.Deep
set_option linter.unusedSimpArgs false
set_option linter.unusedVariables false
def DrawnRT (lo hi : Int) (w : World) (e : Ending) (w' : World) : Prop := ∃ p d c : Int, e = .returned (.tuple #[.agg #[.int .i64 p, .int .i64 d], .int .i64 c]) ∧ SmR p d ∧ lo ≤ c ∧ c ≤ hi ∧ Below w.heap.size w w'
set_option maxHeartbeats 2000000 in
theorem drawRelayTime_any (A : Option Addr) (c : Nat) (bs : List Int) (w : World) (hR : Reads 1 byteC w w.heap.size A bs) (hb : ∀ x ∈ bs, U8 x) (hl : bs.length ≤ 1048576) (hc : bs.length ≤ c) (hcm : c ≤ 9223372036854775807) :
    Calls Tryd.prog 9 #[.slice A bs.length c] w (DrawnRT (-1) 410 w) := by
  have HR := Lib.hid hR; clear hR
  have HB := Lib.hid hb; clear hb
  go_enter Tryd.func9, Tryd.ntmps9
  go_wp2_with fail; ((with_reducible refine (l20Open_any A c bs _ ((HR.out.below (Below.alloc (Below.refl w.heap.size w) (Nat.le_refl _) _) (Nat.le_refl _)).more (by simp)) HB.out hl hc hcm).mono ?_); rintro e w1 ⟨g, rfl, hg, hr1, hb_1⟩); have cB0_1 := keepB hb_1 (g := w.heap.size) (by go_size); have fB0_1 := keepF hb_1 (g := w.heap.size) (by go_size); have zB0_1 := keepZ hb_1 (g := w.heap.size) (by go_size); have hz_1 := hb_1.size; (try simp only [World.size_alloc, World.size_setCell, World.size_drew] at hz_1)
  have hgz := hr1.lt
  have HR1 := Lib.hid hr1; clear hr1
  simp only [World.size_alloc] at hg
  have K0 : Hid (Bk w1 w.heap.size 24 #[.int .i64 0, .int .i64 0]) := (Bk.new w _ _).keep hb_1
  have HB1 : Hid (Below w.heap.size w w1) := by unfold Hid; (repeat' (first | (with_reducible exact Below.refl _ _) | (with_reducible refine Below.alloc ?_ ?_ _) | (with_reducible refine Below.setCell ?_ ?_ _) | (with_reducible refine Below.drew ?_) | (refine Below.trans ?_ (Below.mono (by with_reducible assumption) ?_)) | go_size))
  clear cB0_1 fB0_1 zB0_1 hb_1 hz_1
  go_wp2_with fail
  refine (l20Relay_any g 0 9 _ HR1.out (by omega) (by omega) (by omega)).mono ?_
  rintro e w2 ⟨p, d, rfl, hs, hr2, hc2⟩
  have HS := Lib.hid hs
  have hsp := hs
  unfold SmR at hsp
  obtain ⟨hp0, hp1, _, _⟩ := hsp
  have K0b := Lib.hid (hc2.bk K0.out (by omega))
  have HB2 : Hid (Below w.heap.size w w2) := HB1.out.trans ((hc2.below (by omega)).mono (by omega))
  have HR2 := Lib.hid hr2
  have hz2 := hc2.size
  clear hs hc2 hr2 HB1 K0 HR1
  have hgz2 := HR2.out.lt
  have hzk := K0b.out.lt
  go_wp2_with fail; ((with_reducible refine (pick_any g (10) 4 _ (HR2.out.alloc _) (by omega) (by omega)).mono ?_); rintro e w3 ⟨v, rfl, h0v, h1v, hr_w3, hc_w3⟩); have hz_w3 := hc_w3.size; (try simp only [World.size_alloc, World.size_setCell, World.size_drew] at hz_w3); have HR_w3 := Lib.hid hr_w3; have HC_w3 := Lib.hid hc_w3; clear hr_w3 hc_w3
  have K0c := Lib.hid (HC_w3.out.bk (K0b.out.alloc (.cells #[.int .i64 p, .int .i64 d] 24)) (by omega))
  have K1 : Hid (Bk w3 w2.heap.size 24 #[.int .i64 p, .int .i64 d]) := HC_w3.out.bk (Bk.new w2 _ _) (by omega)
  have HB3 : Hid (Below w.heap.size w w3) := (HB2.out.alloc (by omega) _).trans ((HC_w3.out.below (by simp; omega)).mono (by omega))
  clear HB2 K0b HR2 HC_w3
  have hz3 := K1.out.lt
  have hgz3 := HR_w3.out.lt
  have c0 : w3.cell? ⟨w2.heap.size, 0, none⟩ = some (.int .i64 p) := by rw [K1.out.cell]; rfl
  have c1 : w3.cell? ⟨w2.heap.size, 1, none⟩ = some (.int .i64 d) := by rw [K1.out.cell]; rfl
  have d0 : w3.cell? ⟨w.heap.size, 0, none⟩ = some (.int .i64 0) := by rw [K0c.out.cell]; rfl
  have d1 : w3.cell? ⟨w.heap.size, 1, none⟩ = some (.int .i64 0) := by rw [K0c.out.cell]; rfl
  have e0 := K0c.out.frozen
  by_cases hv : v = 0
  · have hv' : (v == 0) = true := by simp [hv]
    clear hv
    go_wp2_with fail
    go_region_held3 (fun w' => w'.cell? ⟨w2.heap.size, 0, none⟩ = some (.int .i64 p) ∧ w'.cell? ⟨w2.heap.size, 1, none⟩ = some (.int .i64 d)) (simp [go_sem, World.cell?_alloc_past, *])
      (first | (go_at_call 32; refine (pick_any g (10 + 1) 4 _ (HR_w3.out.below (Below.drew (Below.refl _ _))) (by omega) (by omega)).mono ?_; rintro e w5 ⟨u, rfl, h0u, h1u, hr5, hc5⟩; have cB2 := Chg.cell hc5 (b := w2.heap.size) (by go_size) (by omega); have cB0 := Chg.cell hc5 (b := w.heap.size) (by go_size) (by omega); have fB0 := Chg.frozen hc5 (b := w.heap.size) (by go_size) (by omega); have zB0 : w2.heap.size < w5.heap.size := Nat.lt_of_lt_of_le (by go_size) hc5.size))
    all_goals
      have hBw : Below w.heap.size w w5 := HB3.out.trans ((hc5.undrew.below (by omega)).mono (by omega))
      have e1 : IntKind.i64.wrap (p + u) = p + u := IntWalk.i64_in _ (by omega)
      have e2 : IntKind.i64.wrap (p + u - 1) = p + u - 1 := IntWalk.i64_in _ (by omega)
      go_wp2_with fail
      refine bodyPost_ret (by simp [results, Tryd.results9, go_sem, cB0, d0, d1, e1, e2]; try rfl) rfl ?_
      refine ⟨_, _, _, rfl, HS.out, by omega, by omega, ?_⟩
      have hqz := hBw.size
      clear hc5 hr5
      (repeat' (first | (with_reducible exact Below.refl _ _) | (with_reducible refine Below.alloc ?_ ?_ _) | (with_reducible refine Below.setCell ?_ ?_ _) | (with_reducible refine Below.drew ?_) | (refine Below.trans ?_ (Below.mono (by with_reducible assumption) ?_)) | go_size))
  · have hv' : (v == 0) = false := by simp [hv]
    clear hv
    go_wp2_with fail
    go_region_held3 (fun w' => w'.cell? ⟨w2.heap.size, 0, none⟩ = some (.int .i64 p) ∧ w'.cell? ⟨w2.heap.size, 1, none⟩ = some (.int .i64 d)) (simp [go_sem, World.cell?_alloc_past, *])
      (first | (go_at_call 33; refine (l20Current_any g (10 + 1) _ (HR_w3.out.below (Below.drew (Below.refl _ _))) (by omega)).mono ?_; rintro e w5 ⟨u, rfl, h0u, h1u, hr5, hc5⟩; have cB2 := Chg.cell hc5 (b := w2.heap.size) (by go_size) (by omega); have cB0 := Chg.cell hc5 (b := w.heap.size) (by go_size) (by omega); have fB0 := Chg.frozen hc5 (b := w.heap.size) (by go_size) (by omega); have zB0 : w2.heap.size < w5.heap.size := Nat.lt_of_lt_of_le (by go_size) hc5.size))
    all_goals
      have hBw : Below w.heap.size w w5 := HB3.out.trans ((hc5.undrew.below (by omega)).mono (by omega))
      go_wp2_with fail
      refine bodyPost_ret (by simp [results, Tryd.results9, go_sem, cB0, d0, d1]; try rfl) rfl ?_
      refine ⟨_, _, _, rfl, HS.out, by omega, by omega, ?_⟩
      have hqz := hBw.size
      clear hc5 hr5
      (repeat' (first | (with_reducible exact Below.refl _ _) | (with_reducible refine Below.alloc ?_ ?_ _) | (with_reducible refine Below.setCell ?_ ?_ _) | (with_reducible refine Below.drew ?_) | (refine Below.trans ?_ (Below.mono (by with_reducible assumption) ?_)) | go_size))
set_option maxHeartbeats 2000000 in
theorem drawCurrentFor_any (A : Option Addr) (c : Nat) (bs : List Int) (w : World) (hR : Reads 1 byteC w w.heap.size A bs) (hb : ∀ x ∈ bs, U8 x) (hl : bs.length ≤ 1048576) (hc : bs.length ≤ c) (hcm : c ≤ 9223372036854775807) :
    Calls Tryd.prog 13 #[.slice A bs.length c] w (DrawnRT (-1) 3000 w) := by
  have HR := Lib.hid hR; clear hR
  have HB := Lib.hid hb; clear hb
  go_enter Tryd.func13, Tryd.ntmps13
  go_wp2_with fail; ((with_reducible refine (l20Open_any A c bs _ ((HR.out.below (Below.alloc (Below.refl w.heap.size w) (Nat.le_refl _) _) (Nat.le_refl _)).more (by simp)) HB.out hl hc hcm).mono ?_); rintro e w1 ⟨g, rfl, hg, hr1, hb_2⟩); have cB0_2 := keepB hb_2 (g := w.heap.size) (by go_size); have fB0_2 := keepF hb_2 (g := w.heap.size) (by go_size); have zB0_2 := keepZ hb_2 (g := w.heap.size) (by go_size); have hz_2 := hb_2.size; (try simp only [World.size_alloc, World.size_setCell, World.size_drew] at hz_2)
  have hgz := hr1.lt
  have HR1 := Lib.hid hr1; clear hr1
  simp only [World.size_alloc] at hg
  have K0 : Hid (Bk w1 w.heap.size 24 #[.int .i64 0, .int .i64 0]) := (Bk.new w _ _).keep hb_2
  have HB1 : Hid (Below w.heap.size w w1) := by unfold Hid; (repeat' (first | (with_reducible exact Below.refl _ _) | (with_reducible refine Below.alloc ?_ ?_ _) | (with_reducible refine Below.setCell ?_ ?_ _) | (with_reducible refine Below.drew ?_) | (refine Below.trans ?_ (Below.mono (by with_reducible assumption) ?_)) | go_size))
  clear cB0_2 fB0_2 zB0_2 hb_2 hz_2
  go_wp2_with fail
  refine (l20Relay_any g 0 9 _ HR1.out (by omega) (by omega) (by omega)).mono ?_
  rintro e w2 ⟨p, d, rfl, hs, hr2, hc2⟩
  have HS := Lib.hid hs
  have K0b := Lib.hid (hc2.bk K0.out (by omega))
  have HB2 : Hid (Below w.heap.size w w2) := HB1.out.trans ((hc2.below (by omega)).mono (by omega))
  have HR2 := Lib.hid hr2
  have hz2 := hc2.size
  clear hs hc2 hr2 HB1 K0 HR1
  have hgz2 := HR2.out.lt
  have hzk := K0b.out.lt
  go_wp2_with fail; ((with_reducible refine (pick_any g (10) 256 _ (HR2.out) (by omega) (by omega)).mono ?_); rintro e w3 ⟨v1, rfl, h0v1, h1v1, hr_w3, hc_w3⟩); have hz_w3 := hc_w3.size; (try simp only [World.size_alloc, World.size_setCell, World.size_drew] at hz_w3); have HR_w3 := Lib.hid hr_w3; have HC_w3 := Lib.hid hc_w3; clear hr_w3 hc_w3
  go_wp2_with fail; ((with_reducible refine (pick_any g (11) 8 _ (HR_w3.out) (by omega) (by omega)).mono ?_); rintro e w4 ⟨v2, rfl, h0v2, h1v2, hr_w4, hc_w4⟩); have hz_w4 := hc_w4.size; (try simp only [World.size_alloc, World.size_setCell, World.size_drew] at hz_w4); have HR_w4 := Lib.hid hr_w4; have HC_w4 := Lib.hid hc_w4; clear hr_w4 hc_w4
  go_wp2_with fail; ((with_reducible refine (pick_any g (12) 9 _ (HR_w4.out) (by omega) (by omega)).mono ?_); rintro e w5 ⟨v3, rfl, h0v3, h1v3, hr_w5, hc_w5⟩); have hz_w5 := hc_w5.size; (try simp only [World.size_alloc, World.size_setCell, World.size_drew] at hz_w5); have HR_w5 := Lib.hid hr_w5; have HC_w5 := Lib.hid hc_w5; clear hr_w5 hc_w5
  have HC : Hid (Chg g w2 w5) := (HC_w3.out.trans HC_w4.out).trans HC_w5.out
  have K0c := Lib.hid (HC.out.bk K0b.out (by omega))
  have HB5 : Hid (Below w.heap.size w w5) := HB2.out.trans ((HC.out.below (by omega)).mono (by omega))
  clear HC_w3 HC_w4 HC_w5 HC HB2 K0b
  have cB := K0c.out.cell
  have fB := K0c.out.frozen
  have zB := K0c.out.lt
  have hd : v3.tdiv 8 = v3 / 8 := Int.tdiv_eq_ediv_of_nonneg (by omega)
  have hd0 : 0 ≤ v3 / 8 ∧ v3 / 8 ≤ 1 := by omega
  obtain ⟨hd1, hd2⟩ := hd0
  generalize v3 / 8 = q at *
  have hm0 : 0 ≤ v1 * (1 + v2) := Int.mul_nonneg (by omega) (by omega)
  have hm1 : v1 * (1 + v2) ≤ 255 * 8 := Int.le_trans (Int.mul_le_mul_of_nonneg_right (by omega) (by omega)) (Int.mul_le_mul_of_nonneg_left (by omega) (by omega))
  have e1 : wrap64 (v1 * (1 + v2)) = v1 * (1 + v2) := by unfold wrap64; omega
  have e2 : wrap64 (v1 * (1 + v2) - q) = v1 * (1 + v2) - q := by unfold wrap64; omega
  go_wp2_with fail
  refine bodyPost_ret (by simp [results, Tryd.results13, go_sem, cB, e1, e2]; try rfl) rfl ?_
  refine ⟨_, _, _, rfl, HS.out, by omega, by omega, ?_⟩
  have hq := HB5.out; have hqz := hq.size
  (repeat' (first | (with_reducible exact Below.refl _ _) | (with_reducible refine Below.alloc ?_ ?_ _) | (with_reducible refine Below.setCell ?_ ?_ _) | (with_reducible refine Below.drew ?_) | (refine Below.trans ?_ (Below.mono (by with_reducible assumption) ?_)) | go_size))
end Go.Proofs.YtkndokcpnlbipaaDoor
