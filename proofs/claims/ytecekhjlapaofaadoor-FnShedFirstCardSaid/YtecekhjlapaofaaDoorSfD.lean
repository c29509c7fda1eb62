/- Blocks and a need are drawn; do numbers ascend? -/
import Derived.Test.YtecekhjlapaofaaDoorDrBlk
import Derived.Test.YtecekhjlapaofaaDoorRk
namespace Go.Proofs.YtecekhjlapaofaaDoor
open Go.RowKit Go.Deep
set_option linter.unusedSimpArgs false
set_option linter.unusedVariables false

/-- Blocks and a need were drawn. -/
def DrawnBN (w : World) (e : Ending) (w' : World) : Prop :=
  ∃ (A : Option Addr) (c : Nat) (xs : List R2) (L : Int), e = .returned (.tuple #[.slice A xs.length c, .int .i64 L]) ∧ xs.length ≤ 9 ∧ -1 ≤ L ∧ L ≤ 100 ∧ DrS 2 r2C w' w.heap.size (.slice A xs.length c) xs ∧ Below w.heap.size w w'
set_option maxRecDepth 100000 in
set_option maxHeartbeats 4000000 in
theorem drawShedFirst_any (A : Option Addr) (c : Nat) (bs : List Int) (w : World) (hR : Reads 1 byteC w w.heap.size A bs) (hb : ∀ x ∈ bs, U8 x) (hl : bs.length ≤ 1048576) (hc : bs.length ≤ c) (hcm : c ≤ 9223372036854775807) :
    Calls Tryd.prog 8 #[.slice A bs.length c] w (DrawnBN w) := by
  have HR := Lib.hid hR; clear hR
  have HB := Lib.hid hb; clear hb
  go_enter Tryd.func8, Tryd.ntmps8
  go_wp2_with fail; ((with_reducible refine (l20Open_any A c bs _ HR.out HB.out hl hc hcm).mono ?_); rintro e w1 ⟨g, rfl, hg, hr1, hb_1⟩); have hz_1 := hb_1.size; (try simp only [World.size_alloc, World.size_setCell, World.size_drew] at hz_1)
  have hgz := hr1.lt
  have HR1 := Lib.hid hr1; have HB1 := Lib.hid hb_1; clear hr1 hb_1
  go_wp2_with fail
  refine (l20Blocks_any g 0 9 _ HR1.out (by omega) (by omega) (by omega)).mono ?_
  rintro e w2 ⟨v, xs, rfl, h9, hs, hd, hr2, hc2⟩
  have HD := Lib.hid hd
  obtain ⟨A1, c1, rfl, _⟩ := hd
  have HR2 := Lib.hid hr2; have HC2 := Lib.hid hc2
  clear hs hc2 hr2
  have hz1 := HB1.out.size
  have hz2 := HC2.out.size
  have hgz2 : g < w2.heap.size := by omega
  go_wp2_with fail; ((with_reducible refine (pick_any g (0 + 40) 100 _ (HR2.out) (by omega) (by omega)).mono ?_); rintro e w3 ⟨v1, rfl, h0v1, h1v1, hr_w3, hc_w3⟩); have hz_w3 := hc_w3.size; (try simp only [World.size_alloc, World.size_setCell, World.size_drew] at hz_w3); have HR_w3 := Lib.hid hr_w3; have HC_w3 := Lib.hid hc_w3; clear hr_w3 hc_w3
  go_wp2_with fail; ((with_reducible refine (pick_any g (0 + 40 + 1) 12 _ (HR_w3.out) (by omega) (by omega)).mono ?_); rintro e w4 ⟨v2, rfl, h0v2, h1v2, hr_w4, hc_w4⟩); have hz_w4 := hc_w4.size; (try simp only [World.size_alloc, World.size_setCell, World.size_drew] at hz_w4); have HR_w4 := Lib.hid hr_w4; have HC_w4 := Lib.hid hc_w4; clear hr_w4 hc_w4
  have HC4 : Hid (Chg g w2 w4) := HC_w3.out.trans HC_w4.out
  clear HC_w3 HC_w4
  go_wp2_with fail
  refine bodyPost_ret (by simp [results, Tryd.results8, go_sem]; try rfl) rfl ?_
  refine ⟨A1, c1, xs, v1 - v2 / 11, rfl, h9, by omega, by omega, (HD.out.chg HC4.out hgz).mono hz1, ?_⟩
  exact HB1.out.trans ((((HC2.out.trans HC4.out).below (Nat.le_of_lt hgz))).mono hg)
theorem drawShedLeast_any (A : Option Addr) (c : Nat) (bs : List Int) (w : World) (hR : Reads 1 byteC w w.heap.size A bs) (hb : ∀ x ∈ bs, U8 x) (hl : bs.length ≤ 1048576) (hc : bs.length ≤ c) (hcm : c ≤ 9223372036854775807) :
    Calls Tryd.prog 28 #[.slice A bs.length c] w (DrawnBN w) := by
  have HD := Lib.hid (drawShedFirst_any A c bs w hR hb hl hc hcm); clear hR hb
  go_enter Tryd.func28, Tryd.ntmps28
  go_wp2_with fail
  refine HD.out.mono ?_
  rintro e w1 ⟨A1, c1, xs, L, rfl, h7, hL0, hL1, hd, hb⟩
  have HD1 := Lib.hid hd; have HB := Lib.hid hb; clear hd hb
  go_wp2_with fail
  refine bodyPost_ret (by simp [results, Tryd.results28, go_sem]; try rfl) rfl ?_
  exact ⟨_, _, _, _, rfl, h7, hL0, hL1, HD1.out, HB.out⟩
theorem asc_pair {xs : List Int} (h : xs.Pairwise (· < ·)) {i : Nat} (hi : i + 1 < xs.length) : xs[i] < xs[i + 1] := List.pairwise_iff_getElem.1 h i (i + 1) (by omega) hi (by omega)
set_option maxRecDepth 100000 in
set_option maxHeartbeats 4000000 in
theorem ascend_any (A : Option Addr) (n cp : Nat) (ys : List Int) (w : World) (hn : ys.length = n) (hR : Reads 1 intC w w.heap.size A ys) (hl : n ≤ 1048576) (hp : ys.Pairwise (· < ·)) :
    Calls Tryd.prog 15 #[.slice A n cp] w fun e w' => e = .returned (.bool true) ∧ Below w.heap.size w w' := by
  have HN := Lib.hid hn; clear hn
  have HR := Lib.hid hR; clear hR
  have HP := Lib.hid hp; clear hp
  go_enter Tryd.func15, Tryd.ntmps15
  go_wp2_with fail
  go_loopw [3] (fun t wr => ∃ i : Nat, t = .int .i64 i ∧ 1 ≤ i ∧ i ≤ n + 1 ∧ Hid (∃ m, wr = w.drewN m)) (fun t _ => n + 1 - (intOf t).toNat)
  case atStart => exact ⟨1, rfl, by omega, by omega, ⟨0, rfl⟩⟩
  case round =>
    obtain ⟨i, rfl, h1, hi, HW⟩ := hrel
    obtain ⟨m, rfl⟩ := HW.out
    clear HW
    by_cases hlt : i < n
    · obtain ⟨j, rfl⟩ : ∃ j, i = j + 1 := ⟨i - 1, by omega⟩
      have hx : j + 1 < ys.length := by rw [HN.out]; exact hlt
      have hx0 : j < ys.length := by omega
      have hasc := asc_pair HP.out hx
      obtain ⟨b, off, rfl, hb, hc⟩ := HR.out.at1 hx
      obtain ⟨b', off', hbb, _, hc'⟩ := HR.out.at1 hx0
      injection hbb with hbb; injection hbb with e1 e2
      subst e1 e2
      have hc1 : w.cell? ⟨b, off + (j + 1), none⟩ = some (.int .i64 ys[j + 1]) := hc
      have hc2 : w.cell? ⟨b, off + j, none⟩ = some (.int .i64 ys[j]) := hc'
      clear hc hc'
      generalize ys[j + 1] = y at hc1 hasc
      generalize ys[j] = x at hc2 hasc
      have hnot : ¬ y ≤ x := by omega
      have hj1 : IntKind.i64.wrap (((j + 1 : Nat) : Int) - 1) = (j : Int) := by rw [IntWalk.i64_in _ (by omega)]; omega
      have hi1 : ((j + 1 : Nat) : Int) < (n : Int) := by omega
      have hi0 : (0 : Int) ≤ ((j + 1 : Nat) : Int) := by omega
      have hj2 : (j : Int) < (n : Int) := by omega
      have hj0 : (0 : Int) ≤ (j : Int) := by omega
      go_wp2_with fail
      go_quiet (fail)
      go_wp2_with fail
      exact ⟨⟨j + 1 + 1, by go_num, by omega, by omega, ⟨_, rfl⟩⟩, by simp [intOf]; omega⟩
    · go_wp2_with fail
      go_ret
      exact ⟨rfl, below_drewN' (Below.refl _ _) _⟩
end Go.Proofs.YtecekhjlapaofaaDoor
