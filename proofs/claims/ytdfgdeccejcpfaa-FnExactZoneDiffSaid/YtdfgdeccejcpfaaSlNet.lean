/- Networks: copies, comparisons, sizes. -/
import Derived.Test.YtdfgdeccejcpfaaSlLine
import Derived.Test.YtdfgdeccejcpfaaSlBus
import Derived.Test.YtdfgdeccejcpfaaSl1
namespace Go.Proofs.Ytdfgdeccejcpfaa
open Go.RowKit Go.Deep
set_option linter.unusedSimpArgs false
set_option linter.unusedVariables false
theorem szLineS_any (A : Option Addr) (n c : Nat) (l : Int) (w : World) (h : n ≤ 9223372036854775807) (h0 : 0 ≤ l) (h1 : l ≤ 1048576) :
    Calls Try.prog 37 #[.slice A n c, .int .i64 l] w fun e w' => e = .returned (.int .i64 (if (n : Int) ≤ l then l - n else -1)) ∧ w = w' := by
  by_cases hn : (n : Int) ≤ l
  · rw [if_pos hn]
    have h1 : ¬ (l - (n : Int)) < 0 := by omega
    go_enter Try.func37, Try.ntmps37
    go_wp2
    go_ret
    exact ⟨rfl, rfl⟩
  · rw [if_neg hn]
    have h1 : (l - (n : Int)) < 0 := by omega
    go_enter Try.func37, Try.ntmps37
    go_wp2
    go_ret
    exact ⟨rfl, rfl⟩
theorem szBusS_any (A : Option Addr) (n c : Nat) (l : Int) (w : World) (h : n ≤ 9223372036854775807) (h0 : 0 ≤ l) (h1 : l ≤ 1048576) :
    Calls Try.prog 15 #[.slice A n c, .int .i64 l] w fun e w' => e = .returned (.int .i64 (if (n : Int) ≤ l then l - n else -1)) ∧ w = w' := by
  by_cases hn : (n : Int) ≤ l
  · rw [if_pos hn]
    have h1 : ¬ (l - (n : Int)) < 0 := by omega
    go_enter Try.func15, Try.ntmps15
    go_wp2
    go_ret
    exact ⟨rfl, rfl⟩
  · rw [if_neg hn]
    have h1 : (l - (n : Int)) < 0 := by omega
    go_enter Try.func15, Try.ntmps15
    go_wp2
    go_ret
    exact ⟨rfl, rfl⟩
theorem szNet_any (B : Int) (A : Option Addr) (n c : Nat) (l : Int) (w : World) (h : n ≤ 9223372036854775807) (h0 : 0 ≤ l) (h1 : l ≤ 1048576) :
    Calls Try.prog 8 #[.agg #[.int .i64 B, .slice A n c], .int .i64 l] w fun e w' => e = .returned (.int .i64 (if (n : Int) ≤ l then l - n else -1)) ∧ Below w.heap.size w w' := by
  by_cases hn : (n : Int) ≤ l
  · have hn2 : ¬ (l - (n : Int)) < 0 := by omega
    have hc := szLineS_any A n c l (w.alloc (.cells #[.int .i64 B, .slice A n c] 24)) h h0 h1
    rw [if_pos hn] at hc ⊢
    go_enter Try.func8, Try.ntmps8
    go_wp2_with fail
    refine hc.mono ?_
    rintro e w1 ⟨rfl, rfl⟩
    go_wp2
    go_ret
    refine ⟨rfl, ?_⟩; (repeat' (first | (with_reducible exact Below.refl _ _) | (with_reducible refine Below.alloc ?_ ?_ _) | (with_reducible refine Below.setCell ?_ ?_ _) | (with_reducible refine Below.drew ?_) | (refine Below.trans ?_ (Below.mono (by with_reducible assumption) ?_)) | go_size))
  · have hc := szLineS_any A n c l (w.alloc (.cells #[.int .i64 B, .slice A n c] 24)) h h0 h1
    rw [if_neg hn] at hc ⊢
    go_enter Try.func8, Try.ntmps8
    go_wp2_with fail
    refine hc.mono ?_
    rintro e w1 ⟨rfl, rfl⟩
    go_wp2
    go_ret
    refine ⟨rfl, ?_⟩; (repeat' (first | (with_reducible exact Below.refl _ _) | (with_reducible refine Below.alloc ?_ ?_ _) | (with_reducible refine Below.setCell ?_ ?_ _) | (with_reducible refine Below.drew ?_) | (refine Below.trans ?_ (Below.mono (by with_reducible assumption) ?_)) | go_size))
/-- A call returns a network with the lines xs in memory of its own. -/
def RetNet (T : TypeId) (w : World) (B : Int) (xs : List R3) (e : Ending) (w' : World) : Prop := ∃ v, e = .returned (.agg #[.int .i64 B, v]) ∧ Res 3 r3C T w' w.heap.size v xs ∧ Below w.heap.size w w'
set_option maxHeartbeats 1000000 in
theorem toNet_any (B : Int) (A : Option Addr) (c : Nat) (xs : List R3) (w : World) (hR : Reads 3 r3C w w.heap.size A xs) (hl : xs.length ≤ 1048576) :
    Calls Try.prog 10 #[.agg #[.int .i64 B, .slice A xs.length c]] w (RetNet 85 w B xs) := by
  have HR := Lib.hid hR; clear hR
  have hrd : ∀ W, Below w.heap.size w W → Reads 3 r3C W W.heap.size A xs := fun W h => (HR.out.below h (Nat.le_refl _)).more h.size
  have HRD := Lib.hid hrd; clear hrd
  go_enter Try.func10, Try.ntmps10
  go_wp2_with fail
  refine (toLineS_any A c xs _ (HRD.out _ (by (repeat' (first | (with_reducible exact Below.refl _ _) | (with_reducible refine Below.alloc ?_ ?_ _) | (with_reducible refine Below.setCell ?_ ?_ _) | (with_reducible refine Below.drew ?_) | (refine Below.trans ?_ (Below.mono (by with_reducible assumption) ?_)) | go_size)))) hl).mono ?_
  rintro e w1 ⟨v, rfl, hr, hb⟩
  have cB0 := keepB hb (g := w.heap.size) (by go_size); have fB0 := keepF hb (g := w.heap.size) (by go_size); have zB0 := keepZ hb (g := w.heap.size) (by go_size)
  have cB1 := keepB hb (g := w.heap.size + 1) (by go_size); have fB1 := keepF hb (g := w.heap.size + 1) (by go_size); have zB1 := keepZ hb (g := w.heap.size + 1) (by go_size)
  have cB2 := keepB hb (g := w.heap.size + 1 + 1) (by go_size); have fB2 := keepF hb (g := w.heap.size + 1 + 1) (by go_size); have zB2 := keepZ hb (g := w.heap.size + 1 + 1) (by go_size)
  have hz := hb.size
  simp only [World.size_alloc, World.size_setCell, World.size_drew] at hz
  have HRR := Lib.hid hr; clear hr
  have HB := Lib.hid hb; clear hb
  obtain ⟨vA, vc, rfl, _⟩ := HRR.out
  go_wp2
  refine bodyPost_ret (v := .agg #[.int .i64 B, .slice vA xs.length vc]) (by simp [results, Try.results10, go_sem, cB1, cB2]; try rfl) rfl ?_
  refine ⟨_, rfl, ?_, ?_⟩
  · refine Res.mono (Res.kept HRR.out fun g hg hg2 => ?_) ?_
    · simp only [World.size_alloc, World.size_setCell, World.size_drew] at hg
      exact ((Below.heap_setCell _ _ _ _ (by show g ≠ w.heap.size + 1; omega)).trans (Below.heap_setCell _ _ _ _ (by show g ≠ w.heap.size + 1; omega))).trans (Below.heap_setCell _ _ _ _ (by show g ≠ w.heap.size + 1 + 1; omega))
    · simp only [World.size_alloc, World.size_setCell, World.size_drew]; omega
  · have hb := HB.out; (repeat' (first | (with_reducible exact Below.refl _ _) | (with_reducible refine Below.alloc ?_ ?_ _) | (with_reducible refine Below.setCell ?_ ?_ _) | (with_reducible refine Below.drew ?_) | (refine Below.trans ?_ (Below.mono (by with_reducible assumption) ?_)) | go_size))
set_option maxHeartbeats 1000000 in
theorem eqNet_any (B : Int) (A A' : Option Addr) (c d : Nat) (xs : List R3) (w : World) (hA : Reads 3 r3C w w.heap.size A xs) (hB : Reads 3 r3C w w.heap.size A' xs) (hl : xs.length ≤ 1048576) :
    Calls Try.prog 13 #[.agg #[.int .i64 B, .slice A xs.length c], .agg #[.int .i64 B, .slice A' xs.length d]] w fun e w' => e = .returned (.bool true) ∧ Below w.heap.size w w' := by
  have HA := Lib.hid hA; clear hA
  have HB := Lib.hid hB; clear hB
  have hrd : ∀ W, Below w.heap.size w W → Reads 3 r3C W W.heap.size A xs ∧ Reads 3 r3C W W.heap.size A' xs := fun W h => ⟨(HA.out.below h (Nat.le_refl _)).more h.size, (HB.out.below h (Nat.le_refl _)).more h.size⟩
  have HRD := Lib.hid hrd; clear hrd
  have hnn : ∀ x : Int, (x != x) = false := fun x => by simp
  go_enter Try.func13, Try.ntmps13
  go_wp2_with fail
  refine (eqLineS_any A A' c d xs _ (HRD.out _ (by (repeat' (first | (with_reducible exact Below.refl _ _) | (with_reducible refine Below.alloc ?_ ?_ _) | (with_reducible refine Below.setCell ?_ ?_ _) | (with_reducible refine Below.drew ?_) | (refine Below.trans ?_ (Below.mono (by with_reducible assumption) ?_)) | go_size)))).1 (HRD.out _ (by (repeat' (first | (with_reducible exact Below.refl _ _) | (with_reducible refine Below.alloc ?_ ?_ _) | (with_reducible refine Below.setCell ?_ ?_ _) | (with_reducible refine Below.drew ?_) | (refine Below.trans ?_ (Below.mono (by with_reducible assumption) ?_)) | go_size)))).2 hl).mono ?_
  rintro e w1 ⟨rfl, hb⟩
  go_wp2
  go_ret
  refine ⟨rfl, ?_⟩; (repeat' (first | (with_reducible exact Below.refl _ _) | (with_reducible refine Below.alloc ?_ ?_ _) | (with_reducible refine Below.setCell ?_ ?_ _) | (with_reducible refine Below.drew ?_) | (refine Below.trans ?_ (Below.mono (by with_reducible assumption) ?_)) | go_size))
end Go.Proofs.Ytdfgdeccejcpfaa
