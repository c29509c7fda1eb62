/- Drawing reclosers for the other laws; the laws FnRecStep and FnRecReset: their walks. -/
import Derived.Test.YtkibkmhmlkfhfaaDoorRecV
import Derived.Test.YtkibkmhmlkfhfaaDoorRecC
import Derived.Deep.RegionHeld3
namespace Go.Proofs.YtkibkmhmlkfhfaaDoor
open Go.RowKit Go.Deep
set_option linter.unusedSimpArgs false
set_option linter.unusedVariables false
theorem drawRecTicks_any (A : Option Addr) (c : Nat) (bs : List Int) (w : World) (hR : Reads 1 byteC w w.heap.size A bs) (hb : ∀ x ∈ bs, U8 x) (hl : bs.length ≤ 1048576) (hc : bs.length ≤ c) (hcm : c ≤ 9223372036854775807) :
    Calls Tryd.prog 22 #[.slice A bs.length c] w (DrawnR0 w) := by
  have HR := Lib.hid hR; clear hR
  have HB := Lib.hid hb; clear hb
  go_enter Tryd.func22, Tryd.ntmps22
  go_wp2_with fail; ((with_reducible refine (l20Open_any A c bs _ ((HR.out.below (Below.alloc (Below.refl w.heap.size w) (Nat.le_refl _) _) (Nat.le_refl _)).more (by simp)) HB.out hl hc hcm).mono ?_); rintro e w1 ⟨g, rfl, hg, hr1, hb_1⟩); have cB0_1 := keepB hb_1 (g := w.heap.size) (by go_size); have fB0_1 := keepF hb_1 (g := w.heap.size) (by go_size); have zB0_1 := keepZ hb_1 (g := w.heap.size) (by go_size); have hz_1 := hb_1.size; (try simp only [World.size_alloc, World.size_setCell, World.size_drew] at hz_1)
  have hgz := hr1.lt
  have HR1 := Lib.hid hr1; clear hr1
  simp only [World.size_alloc] at hg
  go_wp2_with fail
  refine (l20Recloser_any g 0 9 _ HR1.out (by omega) (by omega) (by omega)).mono ?_
  rintro e w2 ⟨a, b, c', d, rfl, hs, hr2, hc2⟩
  have cB := Chg.cell hc2 (b := w.heap.size) (by omega) (by omega)
  have fB := Chg.frozen hc2 (b := w.heap.size) (by omega) (by omega)
  have hz2 := hc2.size
  have HS := Lib.hid hs
  have HC := Lib.hid (hc2.below (by omega))
  clear hs hc2
  go_wp2_with fail
  refine bodyPost_ret (by simp [results, Tryd.results22, go_sem, cB, cB0_1]; try rfl) rfl ?_
  refine ⟨_, _, _, _, rfl, HS.out, ?_⟩
  have hC := HC.out
  have hb1 : Below w.heap.size w w1 := by (repeat' (first | (with_reducible exact Below.refl _ _) | (with_reducible refine Below.alloc ?_ ?_ _) | (with_reducible refine Below.setCell ?_ ?_ _) | (with_reducible refine Below.drew ?_) | (refine Below.trans ?_ (Below.mono (by with_reducible assumption) ?_)) | go_size))
  have hb2 : Below w.heap.size w w2 := hb1.trans (hC.mono (by omega))
  clear hb_1 hb1 hC
  (repeat' (first | (with_reducible exact Below.refl _ _) | (with_reducible refine Below.alloc ?_ ?_ _) | (with_reducible refine Below.setCell ?_ ?_ _) | (with_reducible refine Below.drew ?_) | (refine Below.trans ?_ (Below.mono (by with_reducible assumption) ?_)) | go_size))
def DrawnRB (w : World) (e : Ending) (w' : World) : Prop := ∃ (a b c d : Int) (f : Bool), e = .returned (.tuple #[.agg #[.int .i64 a, .int .i64 b, .int .i64 c, .int .i64 d], .bool f]) ∧ SmallR a b c d ∧ Below w.heap.size w w'
theorem drawRecStep_any (A : Option Addr) (c : Nat) (bs : List Int) (w : World) (hR : Reads 1 byteC w w.heap.size A bs) (hb : ∀ x ∈ bs, U8 x) (hl : bs.length ≤ 1048576) (hc : bs.length ≤ c) (hcm : c ≤ 9223372036854775807) :
    Calls Tryd.prog 12 #[.slice A bs.length c] w (DrawnRB w) := by
  have HR := Lib.hid hR; clear hR
  have HB := Lib.hid hb; clear hb
  go_enter Tryd.func12, Tryd.ntmps12
  go_wp2_with fail; ((with_reducible refine (l20Open_any A c bs _ ((HR.out.below (Below.alloc (Below.refl w.heap.size w) (Nat.le_refl _) _) (Nat.le_refl _)).more (by simp)) HB.out hl hc hcm).mono ?_); rintro e w1 ⟨g, rfl, hg, hr1, hb_2⟩); have cB0_2 := keepB hb_2 (g := w.heap.size) (by go_size); have fB0_2 := keepF hb_2 (g := w.heap.size) (by go_size); have zB0_2 := keepZ hb_2 (g := w.heap.size) (by go_size); have hz_2 := hb_2.size; (try simp only [World.size_alloc, World.size_setCell, World.size_drew] at hz_2)
  have hgz := hr1.lt
  have HR1 := Lib.hid hr1; clear hr1
  simp only [World.size_alloc] at hg
  go_wp2_with fail
  refine (l20Recloser_any g 0 9 _ HR1.out (by omega) (by omega) (by omega)).mono ?_
  rintro e w2 ⟨a, b, c', d, rfl, hs, hr2, hc2⟩
  have cB := Chg.cell hc2 (b := w.heap.size) (by omega) (by omega)
  have fB := Chg.frozen hc2 (b := w.heap.size) (by omega) (by omega)
  have hz2 := hc2.size
  have HS := Lib.hid hs
  have HC := Lib.hid (hc2.below (by omega))
  have HR2 := Lib.hid hr2
  clear hs hc2 hr2
  go_wp2_with fail; ((with_reducible refine (pick_any g (40) 2 _ (HR2.out) (by omega) (by omega)).mono ?_); rintro e w3 ⟨v, rfl, h0v, h1v, hr_w3, hc_w3⟩); have cB0_w3 := Chg.cell hc_w3 (b := w.heap.size) (by go_size) (by omega); have fB0_w3 := Chg.frozen hc_w3 (b := w.heap.size) (by go_size) (by omega); have zB0_w3 : w.heap.size < w3.heap.size := Nat.lt_of_lt_of_le (by go_size) hc_w3.size; have hz_w3 := hc_w3.size; (try simp only [World.size_alloc, World.size_setCell, World.size_drew] at hz_w3); have HR_w3 := Lib.hid hr_w3; have HC_w3 := Lib.hid hc_w3; clear hr_w3 hc_w3
  go_wp2_with fail
  refine bodyPost_ret (by simp [results, Tryd.results12, go_sem, cB0_w3, cB, cB0_2]; try rfl) rfl ?_
  refine ⟨_, _, _, _, _, rfl, HS.out, ?_⟩
  have hC := HC.out
  have hb1 : Below w.heap.size w w1 := by (repeat' (first | (with_reducible exact Below.refl _ _) | (with_reducible refine Below.alloc ?_ ?_ _) | (with_reducible refine Below.setCell ?_ ?_ _) | (with_reducible refine Below.drew ?_) | (refine Below.trans ?_ (Below.mono (by with_reducible assumption) ?_)) | go_size))
  have hb2 : Below w.heap.size w w2 := hb1.trans (hC.mono (by omega))
  have hb3 : Below w.heap.size w w3 := hb2.trans ((HC_w3.out.below (by omega)).mono (by omega))
  clear hb_2 hb1 hb2 hC
  (repeat' (first | (with_reducible exact Below.refl _ _) | (with_reducible refine Below.alloc ?_ ?_ _) | (with_reducible refine Below.setCell ?_ ?_ _) | (with_reducible refine Below.drew ?_) | (refine Below.trans ?_ (Below.mono (by with_reducible assumption) ?_)) | go_size))
theorem drawRecReset_any (A : Option Addr) (c : Nat) (bs : List Int) (w : World) (hR : Reads 1 byteC w w.heap.size A bs) (hb : ∀ x ∈ bs, U8 x) (hl : bs.length ≤ 1048576) (hc : bs.length ≤ c) (hcm : c ≤ 9223372036854775807) :
    Calls Tryd.prog 15 #[.slice A bs.length c] w (DrawnR0 w) := by
  have HR := Lib.hid hR; clear hR
  have HB := Lib.hid hb; clear hb
  go_enter Tryd.func15, Tryd.ntmps15
  go_wp2_with fail; ((with_reducible refine (l20Open_any A c bs _ ((HR.out.below (Below.alloc (Below.refl w.heap.size w) (Nat.le_refl _) _) (Nat.le_refl _)).more (by simp)) HB.out hl hc hcm).mono ?_); rintro e w1 ⟨g, rfl, hg, hr1, hb_3⟩); have cB0_3 := keepB hb_3 (g := w.heap.size) (by go_size); have fB0_3 := keepF hb_3 (g := w.heap.size) (by go_size); have zB0_3 := keepZ hb_3 (g := w.heap.size) (by go_size); have hz_3 := hb_3.size; (try simp only [World.size_alloc, World.size_setCell, World.size_drew] at hz_3)
  have hgz := hr1.lt
  have HR1 := Lib.hid hr1; clear hr1
  simp only [World.size_alloc] at hg
  have hb1 : Hid (Below w.heap.size w w1) := by unfold Hid; (repeat' (first | (with_reducible exact Below.refl _ _) | (with_reducible refine Below.alloc ?_ ?_ _) | (with_reducible refine Below.setCell ?_ ?_ _) | (with_reducible refine Below.drew ?_) | (refine Below.trans ?_ (Below.mono (by with_reducible assumption) ?_)) | go_size))
  go_wp2_with fail; ((with_reducible refine (pick_any g (0) 3 _ (HR1.out) (by omega) (by omega)).mono ?_); rintro e w2 ⟨v, rfl, h0v, h1v, hr_w2, hc_w2⟩); have cB0_w2 := Chg.cell hc_w2 (b := w.heap.size) (by go_size) (by omega); have fB0_w2 := Chg.frozen hc_w2 (b := w.heap.size) (by go_size) (by omega); have zB0_w2 : w.heap.size < w2.heap.size := Nat.lt_of_lt_of_le (by go_size) hc_w2.size; have hz_w2 := hc_w2.size; (try simp only [World.size_alloc, World.size_setCell, World.size_drew] at hz_w2); have HR_w2 := Lib.hid hr_w2; have HC_w2 := Lib.hid hc_w2; clear hr_w2 hc_w2
  have hb2 : Hid (Below w.heap.size w w2) := hb1.out.trans ((HC_w2.out.below (by omega)).mono (by omega))
  clear hb_3
  by_cases hv : v = 0
  · subst hv
    go_wp2_with fail
    refine bodyPost_ret (by simp [results, Tryd.results15, go_sem, cB0_w2, cB0_3]; try rfl) rfl ?_
    refine ⟨_, _, _, _, rfl, (by unfold SmallR; omega), ?_⟩
    have hB := hb2.out
    (repeat' (first | (with_reducible exact Below.refl _ _) | (with_reducible refine Below.alloc ?_ ?_ _) | (with_reducible refine Below.setCell ?_ ?_ _) | (with_reducible refine Below.drew ?_) | (refine Below.trans ?_ (Below.mono (by with_reducible assumption) ?_)) | go_size))
  · have hv' : (v == 0) = false := by simp [hv]
    clear hv
    go_wp2_with fail
    refine (l20Recloser_any g 1 9 _ HR_w2.out (by omega) (by omega) (by omega)).mono ?_
    rintro e w3 ⟨a, b, c', d, rfl, hs, hr3, hc3⟩
    have cB := Chg.cell hc3 (b := w.heap.size) (by omega) (by omega)
    have fB := Chg.frozen hc3 (b := w.heap.size) (by omega) (by omega)
    have hz3 := hc3.size
    have HS := Lib.hid hs
    have HC := Lib.hid (hc3.below (by omega))
    clear hs hc3 hr3
    go_wp2_with fail
    refine bodyPost_ret (by simp [results, Tryd.results15, go_sem, cB, cB0_w2, cB0_3]; try rfl) rfl ?_
    refine ⟨_, _, _, _, rfl, HS.out, ?_⟩
    have hb3 : Below w.heap.size w w3 := hb2.out.trans (HC.out.mono (by omega))
    (repeat' (first | (with_reducible exact Below.refl _ _) | (with_reducible refine Below.alloc ?_ ?_ _) | (with_reducible refine Below.setCell ?_ ?_ _) | (with_reducible refine Below.drew ?_) | (refine Below.trans ?_ (Below.mono (by with_reducible assumption) ?_)) | go_size))
end Go.Proofs.YtkibkmhmlkfhfaaDoor
