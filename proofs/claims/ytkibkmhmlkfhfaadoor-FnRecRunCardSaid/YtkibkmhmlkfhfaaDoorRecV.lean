/- The law FnRecValid: its walk. -/
import Derived.Test.YtkibkmhmlkfhfaaDoorDrRec
import Derived.Test.YtkibkmhmlkfhfaaDoorAlive
namespace Go.Proofs.YtkibkmhmlkfhfaaDoor
open Go.RowKit Go.Deep
set_option linter.unusedSimpArgs false
set_option linter.unusedVariables false
def DrawnR0 (w : World) (e : Ending) (w' : World) : Prop := ∃ a b c d : Int, e = .returned (.agg #[.int .i64 a, .int .i64 b, .int .i64 c, .int .i64 d]) ∧ SmallR a b c d ∧ Below w.heap.size w w'
theorem drawRecValid_any (A : Option Addr) (c : Nat) (bs : List Int) (w : World) (hR : Reads 1 byteC w w.heap.size A bs) (hb : ∀ x ∈ bs, U8 x) (hl : bs.length ≤ 1048576) (hc : bs.length ≤ c) (hcm : c ≤ 9223372036854775807) :
    Calls Tryd.prog 8 #[.slice A bs.length c] w (DrawnR0 w) := by
  have HR := Lib.hid hR; clear hR
  have HB := Lib.hid hb; clear hb
  go_enter Tryd.func8, Tryd.ntmps8
  go_wp2_with fail; ((with_reducible refine (l20Open_any A c bs _ ((HR.out.below (Below.alloc (Below.refl w.heap.size w) (Nat.le_refl _) _) (Nat.le_refl _)).more (by simp)) HB.out hl hc hcm).mono ?_); rintro e w1 ⟨g, rfl, hg, hr1, hb_1⟩); have cB0_1 := keepB hb_1 (g := w.heap.size) (by go_size); have fB0_1 := keepF hb_1 (g := w.heap.size) (by go_size); have zB0_1 := keepZ hb_1 (g := w.heap.size) (by go_size); have hz_1 := hb_1.size; (try simp only [World.size_alloc, World.size_setCell, World.size_drew] at hz_1)
  have hgz := hr1.lt
  have HR1 := Lib.hid hr1; clear hr1
  simp only [World.size_alloc] at hg
  go_wp2_with fail
  refine (l20Recloser_any g 0 2 _ HR1.out (by omega) (by omega) (by omega)).mono ?_
  rintro e w2 ⟨a, b, c', d, rfl, hs, hr2, hc2⟩
  have cB := Chg.cell hc2 (b := w.heap.size) (by omega) (by omega)
  have fB := Chg.frozen hc2 (b := w.heap.size) (by omega) (by omega)
  have hz2 := hc2.size
  have HS := Lib.hid hs
  have HC := Lib.hid (hc2.below (by omega))
  clear hs hc2
  go_wp2_with fail
  refine bodyPost_ret (by simp [results, Tryd.results8, go_sem, cB, cB0_1]; try rfl) rfl ?_
  refine ⟨_, _, _, _, rfl, HS.out, ?_⟩
  have hC := HC.out
  have hb1 : Below w.heap.size w w1 := by (repeat' (first | (with_reducible exact Below.refl _ _) | (with_reducible refine Below.alloc ?_ ?_ _) | (with_reducible refine Below.setCell ?_ ?_ _) | (with_reducible refine Below.drew ?_) | (refine Below.trans ?_ (Below.mono (by with_reducible assumption) ?_)) | go_size))
  have hb2 : Below w.heap.size w w2 := hb1.trans (hC.mono (by omega))
  clear hb_1 hb1 hC
  (repeat' (first | (with_reducible exact Below.refl _ _) | (with_reducible refine Below.alloc ?_ ?_ _) | (with_reducible refine Below.setCell ?_ ?_ _) | (with_reducible refine Below.drew ?_) | (refine Below.trans ?_ (Below.mono (by with_reducible assumption) ?_)) | go_size))
set_option maxHeartbeats 1000000 in
theorem fnRecValid_any (A : Option Addr) (n c : Nat) (bs : List Int) (w : World) (hn : bs.length = n) (hb : ∀ x ∈ bs, U8 x) (hc : n ≤ c) (hcm : c ≤ maxLen) (hR : Reads 1 byteC w w.heap.size A bs) :
    Calls Tryd.prog 3 #[.slice A n c] w fun e w' => e = .returned (.bool true) ∧ Below w.heap.size w w' := by
  unfold maxLen at hcm
  subst hn
  have HR := Lib.hid hR; clear hR
  have HB := Lib.hid hb; clear hb
  by_cases hl : bs.length ≤ 1048576
  · have hl' : ¬ (1048576 : Int) < bs.length := by omega
    go_enter Tryd.func3, Tryd.ntmps3
    go_wp2_with fail; ((with_reducible refine (drawRecValid_any A c bs w HR.out HB.out hl hc hcm).mono ?_); rintro e w1 ⟨a, b, c', d, rfl, hs, hb_2⟩); have hz_2 := hb_2.size; (try simp only [World.size_alloc, World.size_setCell, World.size_drew] at hz_2)
    have HS := Lib.hid hs; clear hs
    have hbb : ∀ x : Bool, (x != x) = false := fun x => by simp
    have hv5 : recV a b c' 5 = false := by rw [recV_f]; unfold RecP; omega
    have hv0 : recV 0 0 0 0 = true := by rw [recV_t]; unfold RecP; omega
    go_wp2_with fail; ((with_reducible refine (implRecValid_any _ _ _ _ _).mono ?_); rintro e w2 ⟨rfl, hb_3⟩); have cB0_3 := keepB hb_3 (g := w1.heap.size) (by go_size); have fB0_3 := keepF hb_3 (g := w1.heap.size) (by go_size); have zB0_3 := keepZ hb_3 (g := w1.heap.size) (by go_size); have hz_3 := hb_3.size; (try simp only [World.size_alloc, World.size_setCell, World.size_drew] at hz_3)
    go_wp2_with fail; ((with_reducible refine (specRecValid_any _ _ _ _ _).mono ?_); rintro e w3 ⟨rfl, hb_4⟩); have cB0_4 := keepB hb_4 (g := w1.heap.size) (by go_size); have fB0_4 := keepF hb_4 (g := w1.heap.size) (by go_size); have zB0_4 := keepZ hb_4 (g := w1.heap.size) (by go_size); have hz_4 := hb_4.size; (try simp only [World.size_alloc, World.size_setCell, World.size_drew] at hz_4)
    go_wp2_with fail; ((with_reducible refine (implRecValid_any _ _ _ _ _).mono ?_); rintro e w4 ⟨rfl, hb_5⟩); have cB0_5 := keepB hb_5 (g := w1.heap.size) (by go_size); have fB0_5 := keepF hb_5 (g := w1.heap.size) (by go_size); have zB0_5 := keepZ hb_5 (g := w1.heap.size) (by go_size); have hz_5 := hb_5.size; (try simp only [World.size_alloc, World.size_setCell, World.size_drew] at hz_5)
    go_wp2_with fail; ((with_reducible refine (implRecValid_any _ _ _ _ _).mono ?_); rintro e w5 ⟨rfl, hb_6⟩); have hz_6 := hb_6.size; (try simp only [World.size_alloc, World.size_setCell, World.size_drew] at hz_6)
    go_wp2_with fail; ((with_reducible refine (alive_any _).mono ?_); rintro e w6 ⟨rfl, hb_7⟩); have hz_7 := hb_7.size; (try simp only [World.size_alloc, World.size_setCell, World.size_drew] at hz_7)
    go_wp2
    go_ret
    refine ⟨rfl, ?_⟩; (repeat' (first | (with_reducible exact Below.refl _ _) | (with_reducible refine Below.alloc ?_ ?_ _) | (with_reducible refine Below.setCell ?_ ?_ _) | (with_reducible refine Below.drew ?_) | (refine Below.trans ?_ (Below.mono (by with_reducible assumption) ?_)) | go_size))
  · have hl' : (1048576 : Int) < bs.length := by omega
    go_enter Tryd.func3, Tryd.ntmps3
    go_wp2_with fail
    go_ret
    exact ⟨rfl, Below.refl _ _⟩
end Go.Proofs.YtkibkmhmlkfhfaaDoor
