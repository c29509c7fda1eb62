/- Two laws of blocks: validity, and sums: the walks. -/
import Derived.Test.YtecekhjlapaofaaBlkC
namespace Go.Proofs.Ytecekhjlapaofaa
open Go.RowKit
set_option linter.unusedSimpArgs false
set_option linter.unusedVariables false
theorem szBlockS_any (A : Option Addr) (n c : Nat) (l : Int) (w : World) (h : n ≤ 9223372036854775807) (hl : l = 1048576) :
    Calls Try.prog 6 #[.slice A n c, .int .i64 l] w fun e w' => e = .returned (.int .i64 (if (n : Int) ≤ 1048576 then 1048576 - n else -1)) ∧ w = w' := by
  subst hl
  by_cases hn : (n : Int) ≤ 1048576
  · rw [if_pos hn]
    have h1 : ¬ (1048576 - (n : Int)) < 0 := by omega
    go_enter Try.func6, Try.ntmps6
    go_wp2
    go_ret
    exact ⟨rfl, rfl⟩
  · rw [if_neg hn]
    have h1 : (1048576 - (n : Int)) < 0 := by omega
    go_enter Try.func6, Try.ntmps6
    go_wp2
    go_ret
    exact ⟨rfl, rfl⟩

set_option maxHeartbeats 1000000 in
theorem fnExactBlocksValid_any (A : Option Addr) (n c : Nat) (xs : List R2) (w : World) (hn : xs.length = n) (_ : ∀ x ∈ xs, G2 x) (h1 : n ≤ c) (h2 : c ≤ maxLen) (hR : Reads 2 r2C w w.heap.size A xs) :
    Calls Try.prog 3 #[.slice A n c] w fun e w' => e = .returned (.bool true) ∧ Below w.heap.size w w' := by
  unfold maxLen at h2
  subst hn
  have HR := Lib.hid hR; clear hR
  by_cases hl : xs.length ≤ 1048576
  · have hl' : (xs.length : Int) ≤ 1048576 := by omega
    have hd : (0 : Int) ≤ 1048576 - xs.length := by omega
    go_enter Try.func3, Try.ntmps3
    go_wp2_with fail
    refine (szBlockS_any A xs.length c _ _ (by omega) rfl).mono ?_
    rintro e w0 ⟨rfl, rfl⟩
    rw [if_pos hl']
    go_wp2_with fail; ((with_reducible refine (toBlockS_any A c xs w HR.out hl).mono ?_); rintro e w2 ⟨v2, rfl, hr2, hb_1⟩); have hz_1 := hb_1.size; (try simp only [World.size_alloc, World.size_setCell, World.size_drew] at hz_1)
    have HR2 := Lib.hid hr2
    obtain ⟨A2, c2, rfl, _⟩ := hr2
    go_wp2_with fail; ((with_reducible refine (specBlocksValid_any A2 c2 xs w2 HR2.out.reads.1 hl).mono ?_); rintro e w3 ⟨rfl, hb_2⟩); have hz_2 := hb_2.size; (try simp only [World.size_alloc, World.size_setCell, World.size_drew] at hz_2)
    have HB3 : Hid (Below w.heap.size w w3) := by unfold Hid; (repeat' (first | (with_reducible exact Below.refl _ _) | (with_reducible refine Below.alloc ?_ ?_ _) | (with_reducible refine Below.setCell ?_ ?_ _) | (with_reducible refine Below.drew ?_) | (refine Below.trans ?_ (Below.mono (by with_reducible assumption) ?_)) | go_size))
    go_wp2_with fail; ((with_reducible refine (toBlockS_any A c xs w3 ((HR.out.below HB3.out (Nat.le_refl _)).more (by omega)) hl).mono ?_); rintro e w4 ⟨v4, rfl, hr4, hb_3⟩); have hz_3 := hb_3.size; (try simp only [World.size_alloc, World.size_setCell, World.size_drew] at hz_3)
    have HR4 := Lib.hid hr4
    obtain ⟨A4, c4, rfl, _⟩ := hr4
    go_wp2_with fail; ((with_reducible refine (implBlocksValid_any A4 c4 xs w4 HR4.out.reads.1 hl).mono ?_); rintro e w5 ⟨rfl, hb_4⟩); have hz_4 := hb_4.size; (try simp only [World.size_alloc, World.size_setCell, World.size_drew] at hz_4)
    have HR5 := Lib.hid (HR4.out.below hb_4)
    have HB5 : Hid (Below w.heap.size w w5) := by unfold Hid; (repeat' (first | (with_reducible exact Below.refl _ _) | (with_reducible refine Below.alloc ?_ ?_ _) | (with_reducible refine Below.setCell ?_ ?_ _) | (with_reducible refine Below.drew ?_) | (refine Below.trans ?_ (Below.mono (by with_reducible assumption) ?_)) | go_size))
    go_wp2_with fail; ((with_reducible refine (toBlockS_any A c xs w5 ((HR.out.below HB5.out (Nat.le_refl _)).more (by omega)) hl).mono ?_); rintro e w6 ⟨v6, rfl, hr6, hb_5⟩); have hz_5 := hb_5.size; (try simp only [World.size_alloc, World.size_setCell, World.size_drew] at hz_5)
    have HR6 := Lib.hid hr6
    obtain ⟨A6, c6, rfl, _⟩ := hr6
    go_wp2_with fail; ((with_reducible refine (eqBlockS_any A4 A6 c4 c6 xs w6 (HR5.out.below hb_5).reads.1 HR6.out.reads.1 hl).mono ?_); rintro e w7 ⟨rfl, hb_6⟩); have hz_6 := hb_6.size; (try simp only [World.size_alloc, World.size_setCell, World.size_drew] at hz_6)
    go_wp2
    go_ret
    refine ⟨rfl, ?_⟩; (repeat' (first | (with_reducible exact Below.refl _ _) | (with_reducible refine Below.alloc ?_ ?_ _) | (with_reducible refine Below.setCell ?_ ?_ _) | (with_reducible refine Below.drew ?_) | (refine Below.trans ?_ (Below.mono (by with_reducible assumption) ?_)) | go_size))
  · have hl' : ¬ (xs.length : Int) ≤ 1048576 := by omega
    go_enter Try.func3, Try.ntmps3
    go_wp2_with fail
    refine (szBlockS_any A xs.length c _ _ (by omega) rfl).mono ?_
    rintro e w0 ⟨rfl, rfl⟩
    rw [if_neg (by omega)]
    go_wp2_with fail
    go_ret
    exact ⟨rfl, Below.refl _ _⟩

set_option maxHeartbeats 1000000 in
theorem fnExactShedSum_any (A : Option Addr) (n c : Nat) (xs : List R2) (B : Option Addr) (m d : Nat) (ys : List Int) (w : World) (hn : xs.length = n) (_ : ∀ x ∈ xs, G2 x) (h1 : n ≤ c) (h2 : c ≤ maxLen) (hR : Reads 2 r2C w w.heap.size A xs)
    (hm : ys.length = m) (hg : ∀ y ∈ ys, I64 y) (h3 : m ≤ d) (h4 : d ≤ maxLen) (hS : Reads 1 intC w w.heap.size B ys) :
    Calls Try.prog 4 #[.slice A n c, .slice B m d] w fun e w' => e = .returned (.bool true) ∧ Below w.heap.size w w' := by
  unfold maxLen at h2 h4
  subst hn hm
  have HR := Lib.hid hR; clear hR
  have HS := Lib.hid hS; clear hS
  have HG := Lib.hid hg; clear hg
  by_cases hm : ys.length ≤ 1048576
  · have hm' : ¬ (1048576 : Int) < ys.length := by omega
    by_cases hl : xs.length ≤ 1048576
    · have hl' : (xs.length : Int) ≤ 1048576 := by omega
      have hd : (0 : Int) ≤ 1048576 - xs.length := by omega
      have hnn : ∀ x : Int, (x != x) = false := fun x => by simp
      go_enter Try.func4, Try.ntmps4
      go_wp2_with fail
      refine (szBlockS_any A xs.length c _ _ (by omega) rfl).mono ?_
      rintro e w0 ⟨rfl, rfl⟩
      rw [if_pos hl']
      go_wp2_with fail; ((with_reducible refine (toBlockS_any A c xs w HR.out hl).mono ?_); rintro e w1 ⟨v1, rfl, hr1, hb_7⟩); have hz_7 := hb_7.size; (try simp only [World.size_alloc, World.size_setCell, World.size_drew] at hz_7)
      have HR1 := Lib.hid hr1
      obtain ⟨A1, c1, rfl, _⟩ := hr1
      go_wp2_with fail; ((with_reducible refine (toIntS_any B d ys w1 ((HS.out.below hb_7 (Nat.le_refl _)).more (by omega)) hm).mono ?_); rintro e w2 ⟨v2, rfl, hr2, hb_8⟩); have hz_8 := hb_8.size; (try simp only [World.size_alloc, World.size_setCell, World.size_drew] at hz_8)
      have HR2 := Lib.hid hr2
      obtain ⟨A2, c2, rfl, _⟩ := hr2
      go_wp2_with fail; ((with_reducible refine (specShedSum_any A1 A2 c1 c2 xs ys w2 (HR1.out.below hb_8).reads.1 HR2.out.reads.1 HG.out hl hm).mono ?_); rintro e w3 ⟨rfl, hb_9⟩); have hz_9 := hb_9.size; (try simp only [World.size_alloc, World.size_setCell, World.size_drew] at hz_9)
      have HB3 : Hid (Below w.heap.size w w3) := by unfold Hid; (repeat' (first | (with_reducible exact Below.refl _ _) | (with_reducible refine Below.alloc ?_ ?_ _) | (with_reducible refine Below.setCell ?_ ?_ _) | (with_reducible refine Below.drew ?_) | (refine Below.trans ?_ (Below.mono (by with_reducible assumption) ?_)) | go_size))
      go_wp2_with fail; ((with_reducible refine (toBlockS_any A c xs w3 ((HR.out.below HB3.out (Nat.le_refl _)).more (by omega)) hl).mono ?_); rintro e w4 ⟨v4, rfl, hr4, hb_10⟩); have hz_10 := hb_10.size; (try simp only [World.size_alloc, World.size_setCell, World.size_drew] at hz_10)
      have HR4 := Lib.hid hr4
      obtain ⟨A4, c4, rfl, _⟩ := hr4
      have HB4 : Hid (Below w.heap.size w w4) := by unfold Hid; have h3 := HB3.out; (repeat' (first | (with_reducible exact Below.refl _ _) | (with_reducible refine Below.alloc ?_ ?_ _) | (with_reducible refine Below.setCell ?_ ?_ _) | (with_reducible refine Below.drew ?_) | (refine Below.trans ?_ (Below.mono (by with_reducible assumption) ?_)) | go_size))
      go_wp2_with fail; ((with_reducible refine (toIntS_any B d ys w4 ((HS.out.below HB4.out (Nat.le_refl _)).more (by omega)) hm).mono ?_); rintro e w5 ⟨v5, rfl, hr5, hb_11⟩); have hz_11 := hb_11.size; (try simp only [World.size_alloc, World.size_setCell, World.size_drew] at hz_11)
      have HR5 := Lib.hid hr5
      obtain ⟨A5, c5, rfl, _⟩ := hr5
      have HR45 := Lib.hid (HR4.out.below hb_11)
      go_wp2_with fail; ((with_reducible refine (implShedSum_any A4 A5 c4 c5 xs ys w5 HR45.out.reads.1 HR5.out.reads.1 HG.out hl hm).mono ?_); rintro e w6 ⟨rfl, hb_12⟩); have hz_12 := hb_12.size; (try simp only [World.size_alloc, World.size_setCell, World.size_drew] at hz_12)
      have HR46 := Lib.hid (HR45.out.below hb_12)
      have HR56 := Lib.hid (HR5.out.below hb_12)
      have HB6 : Hid (Below w.heap.size w w6) := by unfold Hid; have h4 := HB4.out; (repeat' (first | (with_reducible exact Below.refl _ _) | (with_reducible refine Below.alloc ?_ ?_ _) | (with_reducible refine Below.setCell ?_ ?_ _) | (with_reducible refine Below.drew ?_) | (refine Below.trans ?_ (Below.mono (by with_reducible assumption) ?_)) | go_size))
      go_wp2_with fail; ((with_reducible refine (toBlockS_any A c xs w6 ((HR.out.below HB6.out (Nat.le_refl _)).more (by omega)) hl).mono ?_); rintro e w7 ⟨v7, rfl, hr7, hb_13⟩); have hz_13 := hb_13.size; (try simp only [World.size_alloc, World.size_setCell, World.size_drew] at hz_13)
      have HR7 := Lib.hid hr7
      obtain ⟨A7, c7, rfl, _⟩ := hr7
      go_wp2_with fail; ((with_reducible refine (eqBlockS_any A4 A7 c4 c7 xs w7 (HR46.out.below hb_13).reads.1 HR7.out.reads.1 hl).mono ?_); rintro e w8 ⟨rfl, hb_14⟩); have hz_14 := hb_14.size; (try simp only [World.size_alloc, World.size_setCell, World.size_drew] at hz_14)
      have HB8 : Hid (Below w.heap.size w w8) := by unfold Hid; have h6 := HB6.out; (repeat' (first | (with_reducible exact Below.refl _ _) | (with_reducible refine Below.alloc ?_ ?_ _) | (with_reducible refine Below.setCell ?_ ?_ _) | (with_reducible refine Below.drew ?_) | (refine Below.trans ?_ (Below.mono (by with_reducible assumption) ?_)) | go_size))
      go_wp2_with fail; ((with_reducible refine (toIntS_any B d ys w8 ((HS.out.below HB8.out (Nat.le_refl _)).more (by omega)) hm).mono ?_); rintro e w9 ⟨v9, rfl, hr9, hb_15⟩); have hz_15 := hb_15.size; (try simp only [World.size_alloc, World.size_setCell, World.size_drew] at hz_15)
      have HR9 := Lib.hid hr9
      obtain ⟨A9, c9, rfl, _⟩ := hr9
      go_wp2_with fail; ((with_reducible refine (eqIntS_any A5 A9 c5 c9 ys w9 (((HR56.out.below hb_13).below hb_14).below hb_15).reads.1 HR9.out.reads.1 hm).mono ?_); rintro e w10 ⟨rfl, hb_16⟩); have hz_16 := hb_16.size; (try simp only [World.size_alloc, World.size_setCell, World.size_drew] at hz_16)
      go_wp2
      go_ret
      have h8 := HB8.out
      refine ⟨rfl, ?_⟩; (repeat' (first | (with_reducible exact Below.refl _ _) | (with_reducible refine Below.alloc ?_ ?_ _) | (with_reducible refine Below.setCell ?_ ?_ _) | (with_reducible refine Below.drew ?_) | (refine Below.trans ?_ (Below.mono (by with_reducible assumption) ?_)) | go_size))
    · have hl' : ¬ (xs.length : Int) ≤ 1048576 := by omega
      go_enter Try.func4, Try.ntmps4
      go_wp2_with fail
      refine (szBlockS_any A xs.length c _ _ (by omega) rfl).mono ?_
      rintro e w0 ⟨rfl, rfl⟩
      rw [if_neg (by omega)]
      go_wp2_with fail
      go_ret
      exact ⟨rfl, Below.refl _ _⟩
  · have hm' : (1048576 : Int) < ys.length := by omega
    go_enter Try.func4, Try.ntmps4
    go_wp2_with fail
    go_ret
    exact ⟨rfl, Below.refl _ _⟩
end Go.Proofs.Ytecekhjlapaofaa
