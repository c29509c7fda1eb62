/- The law on a battery's plan: its walk. -/
import Derived.Test.YtkndokcpnlbipaaBat
namespace Go.Proofs.Ytkndokcpnlbipaa
open Go.RowKit
set_option linter.unusedSimpArgs false
set_option linter.unusedVariables false
set_option maxHeartbeats 1000000 in
theorem fnExactStoreRun_any (s r l : Int) (A : Option Addr) (n c : Nat) (xs : List Int) (w : World) (_ : I64 s) (_ : I64 r) (_ : I64 l) (hn : xs.length = n) (hg : ∀ x ∈ xs, I64 x) (_ : n ≤ c) (_ : c ≤ maxLen) (hR : Reads 1 intC w w.heap.size A xs) :
    Calls Try.prog 5 #[.agg #[.int .i64 s, .int .i64 r, .int .i64 l], .slice A n c] w fun e w' => e = .returned (.bool true) ∧ Below w.heap.size w w' := by
  by_cases hl : n ≤ 1048576
  · subst hn
    have HR := Lib.hid hR; clear hR
    have HG := Lib.hid hg; clear hg
    have hd : ¬ (1048576 : Int) < xs.length := by omega
    have hnn : ∀ x : Int, (x != x) = false := fun x => by simp
    have hbb : ∀ x : Bool, (x != x) = false := fun x => by simp
    go_enter Try.func5, Try.ntmps5
    go_wp2_with fail; ((with_reducible refine (toBattery_any _ _ _ _).mono ?_); rintro e w1 ⟨rfl, hb_1⟩); have cB0_1 := keepB hb_1 (g := w.heap.size) (by go_size); have fB0_1 := keepF hb_1 (g := w.heap.size) (by go_size); have zB0_1 := keepZ hb_1 (g := w.heap.size) (by go_size); have hz_1 := hb_1.size; (try simp only [World.size_alloc, World.size_setCell, World.size_drew] at hz_1)
    have HB1 : Hid (Below w.heap.size w w1) := by unfold Hid; (repeat' (first | (with_reducible exact Below.refl _ _) | (with_reducible refine Below.alloc ?_ ?_ _) | (with_reducible refine Below.setCell ?_ ?_ _) | (with_reducible refine Below.drew ?_) | (refine Below.trans ?_ (Below.mono (by with_reducible assumption) ?_)) | go_size))
    go_wp2_with fail; ((with_reducible refine (toIntS_any A c xs w1 ((HR.out.below HB1.out (Nat.le_refl _)).more (by omega)) hl).mono ?_); rintro e w2 ⟨v2, rfl, hr2, hb_2⟩); have cB0_2 := keepB hb_2 (g := w.heap.size) (by go_size); have fB0_2 := keepF hb_2 (g := w.heap.size) (by go_size); have zB0_2 := keepZ hb_2 (g := w.heap.size) (by go_size); have hz_2 := hb_2.size; (try simp only [World.size_alloc, World.size_setCell, World.size_drew] at hz_2)
    have HR2 := Lib.hid hr2
    obtain ⟨A2, c2, rfl, _⟩ := hr2
    go_wp2_with fail; ((with_reducible refine (specStoreRun_any _ _ _ A2 c2 xs w2 HR2.out.reads.1 HG.out hl).mono ?_); rintro e w3 ⟨rfl, hb_3⟩); have cB0_3 := keepB hb_3 (g := w.heap.size) (by go_size); have fB0_3 := keepF hb_3 (g := w.heap.size) (by go_size); have zB0_3 := keepZ hb_3 (g := w.heap.size) (by go_size); have hz_3 := hb_3.size; (try simp only [World.size_alloc, World.size_setCell, World.size_drew] at hz_3)
    have HB3 : Hid (Below w.heap.size w w3) := by unfold Hid; (repeat' (first | (with_reducible exact Below.refl _ _) | (with_reducible refine Below.alloc ?_ ?_ _) | (with_reducible refine Below.setCell ?_ ?_ _) | (with_reducible refine Below.drew ?_) | (refine Below.trans ?_ (Below.mono (by with_reducible assumption) ?_)) | go_size))
    go_wp2_with fail; ((with_reducible refine (toIntS_any A c xs w3 ((HR.out.below HB3.out (Nat.le_refl _)).more (by omega)) hl).mono ?_); rintro e w4 ⟨v4, rfl, hr4, hb_4⟩); have cB0_4 := keepB hb_4 (g := w.heap.size) (by go_size); have fB0_4 := keepF hb_4 (g := w.heap.size) (by go_size); have zB0_4 := keepZ hb_4 (g := w.heap.size) (by go_size); have hz_4 := hb_4.size; (try simp only [World.size_alloc, World.size_setCell, World.size_drew] at hz_4)
    have HR4 := Lib.hid hr4
    obtain ⟨A4, c4, rfl, _⟩ := hr4
    go_wp2_with fail; ((with_reducible refine (toBattery_any _ _ _ _).mono ?_); rintro e w5 ⟨rfl, hb_5⟩); have cB0_5 := keepB hb_5 (g := w.heap.size) (by go_size); have fB0_5 := keepF hb_5 (g := w.heap.size) (by go_size); have zB0_5 := keepZ hb_5 (g := w.heap.size) (by go_size); have hz_5 := hb_5.size; (try simp only [World.size_alloc, World.size_setCell, World.size_drew] at hz_5)
    have HR5 := Lib.hid (HR4.out.below hb_5)
    go_wp2_with fail; ((with_reducible refine (implStoreRun_any _ _ _ A4 c4 xs w5 HR5.out.reads.1 HG.out hl).mono ?_); rintro e w6 ⟨rfl, hb_6⟩); have cB0_6 := keepB hb_6 (g := w.heap.size) (by go_size); have fB0_6 := keepF hb_6 (g := w.heap.size) (by go_size); have zB0_6 := keepZ hb_6 (g := w.heap.size) (by go_size); have hz_6 := hb_6.size; (try simp only [World.size_alloc, World.size_setCell, World.size_drew] at hz_6)
    have HR6 := Lib.hid (HR5.out.below hb_6)
    have HB6 : Hid (Below w.heap.size w w6) := by unfold Hid; (repeat' (first | (with_reducible exact Below.refl _ _) | (with_reducible refine Below.alloc ?_ ?_ _) | (with_reducible refine Below.setCell ?_ ?_ _) | (with_reducible refine Below.drew ?_) | (refine Below.trans ?_ (Below.mono (by with_reducible assumption) ?_)) | go_size))
    go_wp2_with fail; ((with_reducible refine (toIntS_any A c xs w6 ((HR.out.below HB6.out (Nat.le_refl _)).more (by omega)) hl).mono ?_); rintro e w8 ⟨v8, rfl, hr8, hb_7⟩); have hz_7 := hb_7.size; (try simp only [World.size_alloc, World.size_setCell, World.size_drew] at hz_7)
    have HR8 := Lib.hid hr8
    obtain ⟨A8, c8, rfl, _⟩ := hr8
    go_wp2_with fail; ((with_reducible refine (eqIntS_any A4 A8 c4 c8 xs w8 (HR6.out.below hb_7).reads.1 HR8.out.reads.1 hl).mono ?_); rintro e w9 ⟨rfl, hb_8⟩); have hz_8 := hb_8.size; (try simp only [World.size_alloc, World.size_setCell, World.size_drew] at hz_8)
    go_wp2
    go_ret
    refine ⟨rfl, ?_⟩; (repeat' (first | (with_reducible exact Below.refl _ _) | (with_reducible refine Below.alloc ?_ ?_ _) | (with_reducible refine Below.setCell ?_ ?_ _) | (with_reducible refine Below.drew ?_) | (refine Below.trans ?_ (Below.mono (by with_reducible assumption) ?_)) | go_size))
  · clear hR
    have hl2 : 1048576 < n := by omega
    go_enter Try.func5, Try.ntmps5
    go_wp2_with fail
    go_ret
    refine ⟨rfl, ?_⟩; (repeat' (first | (with_reducible exact Below.refl _ _) | (with_reducible refine Below.alloc ?_ ?_ _) | (with_reducible refine Below.setCell ?_ ?_ _) | (with_reducible refine Below.drew ?_) | (refine Below.trans ?_ (Below.mono (by with_reducible assumption) ?_)) | go_size))
end Go.Proofs.Ytkndokcpnlbipaa
