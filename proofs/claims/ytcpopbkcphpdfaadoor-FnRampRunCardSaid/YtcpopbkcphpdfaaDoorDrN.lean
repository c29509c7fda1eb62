/- Drawing for the laws on ramps. -/
import Derived.Test.YtcpopbkcphpdfaaDoorDrM
import Derived.Test.YtcpopbkcphpdfaaDoorRmpE
namespace Go.Proofs.YtcpopbkcphpdfaaDoor
open Go.RowKit Go.Deep
set_option linter.unusedSimpArgs false
set_option linter.unusedVariables false

/-- Units, ramps and outputs, and nothing old has turned. -/
def DrawnM0 (w : World) (e : Ending) (w' : World) : Prop :=
  ∃ (A1 A2 A3 : Option Addr) (c1 c2 c3 : Nat) (us : List R4) (rs ys : List Int), e = .returned (.tuple #[.slice A1 us.length c1, .slice A2 rs.length c2, .slice A3 ys.length c3]) ∧ 1 ≤ us.length ∧ us.length ≤ 7 ∧ (∀ x ∈ us, SmU x) ∧ rs.length = us.length ∧ (∀ r ∈ rs, -1 ≤ r ∧ r ≤ 1000) ∧ ys.length ≤ 7 ∧ (∀ y ∈ ys, -10 ≤ y ∧ y ≤ 200) ∧
    DrS 4 r4C w' w.heap.size (.slice A1 us.length c1) us ∧ DrS 1 intC w' w.heap.size (.slice A2 rs.length c2) rs ∧ DrS 1 intC w' w.heap.size (.slice A3 ys.length c3) ys ∧ Below w.heap.size w w'
theorem drawRampUnits_any (A : Option Addr) (c : Nat) (bs : List Int) (w : World) (hR : Reads 1 byteC w w.heap.size A bs) (hb : ∀ x ∈ bs, U8 x) (hl : bs.length ≤ 1048576) (hc : bs.length ≤ c) (hcm : c ≤ 9223372036854775807) :
    Calls Tryd.prog 25 #[.slice A bs.length c] w (DrawnM0 w) := by
  have HR := Lib.hid hR; clear hR
  have HB := Lib.hid hb; clear hb
  go_enter Tryd.func25, Tryd.ntmps25
  go_wp2_with fail; ((with_reducible refine (l20Open_any A c bs _ HR.out HB.out hl hc hcm).mono ?_); rintro e w1 ⟨g, rfl, hg, hr1, hb_1⟩); have hz_1 := hb_1.size; (try simp only [World.size_alloc, World.size_setCell, World.size_drew] at hz_1)
  have hgz := hr1.lt
  have HR1 := Lib.hid hr1; have HB1 := Lib.hid hb_1; clear hr1 hb_1
  have hz1 := HB1.out.size
  go_wp2_with fail
  refine (l20Ramped_any g 0 6 _ HR1.out (by omega) (by omega) (by omega)).mono ?_
  rintro e w2 ⟨A1, A2, A3, c1, c2, c3, us, rs, ys, rfl, hu1, hu7, hus, hrl, hrs, hy7, hys, hd1, hd2, hd3, hr2, hc2⟩
  have HP := Lib.hid (And.intro hus (And.intro hrl (And.intro hrs hys))); have HD := Lib.hid (And.intro hd1 (And.intro hd2 hd3)); have HC := Lib.hid hc2
  clear hus hrl hrs hys hd1 hd2 hd3 hr2 hc2
  go_wp2_with fail
  refine bodyPost_ret (by simp [results, Tryd.results25, go_sem]; try rfl) rfl ?_
  exact ⟨_, _, _, _, _, _, us, rs, ys, rfl, hu1, hu7, HP.out.1, HP.out.2.1, HP.out.2.2.1, hy7, HP.out.2.2.2, HD.out.1.mono hz1, HD.out.2.1.mono hz1, HD.out.2.2.mono hz1, HB1.out.trans ((HC.out.below (Nat.le_of_lt hgz)).mono hg)⟩
theorem drawRampRange_any (A : Option Addr) (c : Nat) (bs : List Int) (w : World) (hR : Reads 1 byteC w w.heap.size A bs) (hb : ∀ x ∈ bs, U8 x) (hl : bs.length ≤ 1048576) (hc : bs.length ≤ c) (hcm : c ≤ 9223372036854775807) :
    Calls Tryd.prog 37 #[.slice A bs.length c] w (DrawnM0 w) := by
  have HR := Lib.hid hR; clear hR
  have HB := Lib.hid hb; clear hb
  go_enter Tryd.func37, Tryd.ntmps37
  go_wp2_with fail; ((with_reducible refine (l20Open_any A c bs _ HR.out HB.out hl hc hcm).mono ?_); rintro e w1 ⟨g, rfl, hg, hr1, hb_1⟩); have hz_1 := hb_1.size; (try simp only [World.size_alloc, World.size_setCell, World.size_drew] at hz_1)
  have hgz := hr1.lt
  have HR1 := Lib.hid hr1; have HB1 := Lib.hid hb_1; clear hr1 hb_1
  have hz1 := HB1.out.size
  go_wp2_with fail
  refine (l20Ramped_any g 0 6 _ HR1.out (by omega) (by omega) (by omega)).mono ?_
  rintro e w2 ⟨A1, A2, A3, c1, c2, c3, us, rs, ys, rfl, hu1, hu7, hus, hrl, hrs, hy7, hys, hd1, hd2, hd3, hr2, hc2⟩
  have HP := Lib.hid (And.intro hus (And.intro hrl (And.intro hrs hys))); have HD := Lib.hid (And.intro hd1 (And.intro hd2 hd3)); have HC := Lib.hid hc2
  clear hus hrl hrs hys hd1 hd2 hd3 hr2 hc2
  go_wp2_with fail
  refine bodyPost_ret (by simp [results, Tryd.results37, go_sem]; try rfl) rfl ?_
  exact ⟨_, _, _, _, _, _, us, rs, ys, rfl, hu1, hu7, HP.out.1, HP.out.2.1, HP.out.2.2.1, hy7, HP.out.2.2.2, HD.out.1.mono hz1, HD.out.2.1.mono hz1, HD.out.2.2.mono hz1, HB1.out.trans ((HC.out.below (Nat.le_of_lt hgz)).mono hg)⟩
/-- Units, ramps, outputs and a load. -/
def DrawnML (w : World) (e : Ending) (w' : World) : Prop :=
  ∃ (A1 A2 A3 : Option Addr) (c1 c2 c3 : Nat) (us : List R4) (rs ys : List Int) (L : Int), e = .returned (.tuple #[.slice A1 us.length c1, .slice A2 rs.length c2, .slice A3 ys.length c3, .int .i64 L]) ∧ 1 ≤ us.length ∧ us.length ≤ 7 ∧ (∀ x ∈ us, SmU x) ∧ rs.length = us.length ∧ (∀ r ∈ rs, -1 ≤ r ∧ r ≤ 1000) ∧ ys.length ≤ 7 ∧ (∀ y ∈ ys, -10 ≤ y ∧ y ≤ 200) ∧ -10 ≤ L ∧ L ≤ 20000 ∧
    DrS 4 r4C w' w.heap.size (.slice A1 us.length c1) us ∧ DrS 1 intC w' w.heap.size (.slice A2 rs.length c2) rs ∧ DrS 1 intC w' w.heap.size (.slice A3 ys.length c3) ys ∧ Below w.heap.size w w'
theorem rng_bd (xs : List R4) (rs ys : List Int) : -1 ≤ rngLo (rampOut xs rs ys) ∧ rngLo (rampOut xs rs ys) ≤ 5994 ∧ -1 ≤ rngHi (rampOut xs rs ys) ∧ rngHi (rampOut xs rs ys) ≤ 5994 := by
  have h := (rampOut_unis xs rs ys).sums
  unfold rngLo rngHi
  split <;> omega
set_option maxRecDepth 100000 in
set_option maxHeartbeats 8000000 in
theorem drawRampNext_any (A : Option Addr) (c : Nat) (bs : List Int) (w : World) (hR : Reads 1 byteC w w.heap.size A bs) (hb : ∀ x ∈ bs, U8 x) (hl : bs.length ≤ 1048576) (hc : bs.length ≤ c) (hcm : c ≤ 9223372036854775807) :
    Calls Tryd.prog 47 #[.slice A bs.length c] w (DrawnML w) := by
  have HR := Lib.hid hR; clear hR
  have HB := Lib.hid hb; clear hb
  go_enter Tryd.func47, Tryd.ntmps47
  go_wp2_with fail; ((with_reducible refine (l20Open_any A c bs _ HR.out HB.out hl hc hcm).mono ?_); rintro e w1 ⟨g, rfl, hg, hr1, hb_1⟩); have hz_1 := hb_1.size; (try simp only [World.size_alloc, World.size_setCell, World.size_drew] at hz_1)
  have hgz := hr1.lt
  have HR1 := Lib.hid hr1; have HB1 := Lib.hid hb_1; clear hr1 hb_1
  have hz1 := HB1.out.size
  go_wp2_with fail
  refine (l20Ramped_any g 0 9 _ HR1.out (by omega) (by omega) (by omega)).mono ?_
  rintro e w2 ⟨A1, A2, A3, c1, c2, c3, us, rs, ys, rfl, hu1, hu7, hus, hrl, hrs, hy7, hys, hd1, hd2, hd3, hr2, hc2⟩
  have HP := Lib.hid (And.intro hus (And.intro hrl (And.intro hrs hys))); have HD := Lib.hid (And.intro hd1 (And.intro hd2 hd3)); have HC := Lib.hid hc2; have HR2 := Lib.hid hr2
  have hz2 := hc2.size
  clear hus hrl hrs hys hd1 hd2 hd3 hr2 hc2
  have hul : us.length ≤ 1048576 := by omega
  have hrl1 : rs.length ≤ 1048576 := by rw [HP.out.2.1]; exact hul
  have hyl : ys.length ≤ 1048576 := by omega
  go_wp2_with fail
  with_reducible refine (specRampRange_any A1 A2 A3 c1 c2 c3 us rs ys w2 HD.out.1.reads.1 HD.out.2.1.reads.1 HD.out.2.2.reads.1 hul hrl1 hyl).mono ?_
  rintro e w3 ⟨rfl, hb3⟩
  have HB3 := Lib.hid hb3
  have hz3 := hb3.size
  clear hb3
  have hbd := rng_bd us rs ys
  generalize rngLo (rampOut us rs ys) = lo at hbd ⊢
  generalize rngHi (rampOut us rs ys) = hi at hbd ⊢
  obtain ⟨l0, l1, h0, h1⟩ := hbd
  have hgz3 : g < w3.heap.size := by omega
  have HR3 := Lib.hid (HR2.out.below HB3.out)
  rcases Int.lt_or_le (hi - lo) 0 with hneg | hpos
  · go_wp2_with fail; ((with_reducible refine (pick_any g (0 + 100) 3 _ (HR3.out) (by omega) (by omega)).mono ?_); rintro e w4 ⟨v1, rfl, h0v1, h1v1, hr_w4, hc_w4⟩); have hz_w4 := hc_w4.size; (try simp only [World.size_alloc, World.size_setCell, World.size_drew] at hz_w4); have HR_w4 := Lib.hid hr_w4; have HC_w4 := Lib.hid hc_w4; clear hr_w4 hc_w4
    go_wp2_with fail; ((with_reducible refine (pick_any g (0 + 100 + 1) 9 _ (HR_w4.out) (by omega) (by omega)).mono ?_); rintro e w5 ⟨v2, rfl, h0v2, h1v2, hr_w5, hc_w5⟩); have hz_w5 := hc_w5.size; (try simp only [World.size_alloc, World.size_setCell, World.size_drew] at hz_w5); have HR_w5 := Lib.hid hr_w5; have HC_w5 := Lib.hid hc_w5; clear hr_w5 hc_w5
    have hv2 : v2.tdiv 8 = 0 ∨ v2.tdiv 8 = 1 := by rw [Int.tdiv_eq_ediv_of_nonneg h0v2]; omega
    generalize v2.tdiv 8 = q2 at hv2
    go_wp2_with fail
    refine bodyPost_ret (by simp [results, Tryd.results47, go_sem]; try rfl) rfl ?_
    have hcc := ((Chg.of_below (g := g) HB3.out).trans HC_w4.out).trans HC_w5.out
    exact ⟨_, _, _, _, _, _, us, rs, ys, _, rfl, hu1, hu7, HP.out.1, HP.out.2.1, HP.out.2.2.1, hy7, HP.out.2.2.2, by omega, by omega, (HD.out.1.chg hcc hgz).mono hz1, (HD.out.2.1.chg hcc hgz).mono hz1, (HD.out.2.2.chg hcc hgz).mono hz1, HB1.out.trans (((HC.out.trans hcc).below (Nat.le_of_lt hgz)).mono hg)⟩
  · have hpos' : ¬ (hi - lo < 0) := by omega
    go_wp2_with fail; ((with_reducible refine (pick_any g (0 + 100) (hi - lo + 3) _ (HR3.out) (by omega) (by omega)).mono ?_); rintro e w4 ⟨v1, rfl, h0v1, h1v1, hr_w4, hc_w4⟩); have hz_w4 := hc_w4.size; (try simp only [World.size_alloc, World.size_setCell, World.size_drew] at hz_w4); have HR_w4 := Lib.hid hr_w4; have HC_w4 := Lib.hid hc_w4; clear hr_w4 hc_w4
    go_wp2_with fail; ((with_reducible refine (pick_any g (0 + 100 + 1) 9 _ (HR_w4.out) (by omega) (by omega)).mono ?_); rintro e w5 ⟨v2, rfl, h0v2, h1v2, hr_w5, hc_w5⟩); have hz_w5 := hc_w5.size; (try simp only [World.size_alloc, World.size_setCell, World.size_drew] at hz_w5); have HR_w5 := Lib.hid hr_w5; have HC_w5 := Lib.hid hc_w5; clear hr_w5 hc_w5
    have hv2 : v2.tdiv 8 = 0 ∨ v2.tdiv 8 = 1 := by rw [Int.tdiv_eq_ediv_of_nonneg h0v2]; omega
    generalize v2.tdiv 8 = q2 at hv2
    go_wp2_with fail
    refine bodyPost_ret (by simp [results, Tryd.results47, go_sem]; try rfl) rfl ?_
    have hcc := ((Chg.of_below (g := g) HB3.out).trans HC_w4.out).trans HC_w5.out
    exact ⟨_, _, _, _, _, _, us, rs, ys, _, rfl, hu1, hu7, HP.out.1, HP.out.2.1, HP.out.2.2.1, hy7, HP.out.2.2.2, by omega, by omega, (HD.out.1.chg hcc hgz).mono hz1, (HD.out.2.1.chg hcc hgz).mono hz1, (HD.out.2.2.chg hcc hgz).mono hz1, HB1.out.trans (((HC.out.trans hcc).below (Nat.le_of_lt hgz)).mono hg)⟩
end Go.Proofs.YtcpopbkcphpdfaaDoor
