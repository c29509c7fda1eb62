/- Networks: validity, as the program asks it. -/
import Derived.Test.YtdfgdeccejcpfaaProg
import Derived.Test.YtdfgdeccejcpfaaRk
namespace Go.Proofs.Ytdfgdeccejcpfaa
open Go.RowKit Go.Deep
set_option linter.unusedSimpArgs false
set_option linter.unusedVariables false

def LineOk (B : Int) (x : R3) : Prop := 0 ≤ x.a ∧ x.a < B ∧ 0 ≤ x.b ∧ x.b < B ∧ ¬ x.a = x.b ∧ 1 ≤ x.c ∧ x.c ≤ 999
instance (B : Int) (x : R3) : Decidable (LineOk B x) := by unfold LineOk; infer_instance
def NetP (B : Int) (xs : List R3) : Prop := 1 ≤ B ∧ B ≤ 8 ∧ xs.length ≤ 10 ∧ ∀ x ∈ xs, LineOk B x
instance (B : Int) (xs : List R3) : Decidable (NetP B xs) := by unfold NetP; infer_instance
def netV (B : Int) (xs : List R3) : Bool := decide (NetP B xs)
theorem netV_t {B : Int} {xs : List R3} : netV B xs = true ↔ NetP B xs := by simp [netV]
theorem netV_f {B : Int} {xs : List R3} : netV B xs = false ↔ ¬ NetP B xs := by simp [netV]
def hasB (B b : Int) : Bool := decide (0 ≤ b ∧ b < B)
theorem hasB_t {B b : Int} : hasB B b = true ↔ (0 ≤ b ∧ b < B) := by simp [hasB]
theorem hasB_f {B b : Int} : hasB B b = false ↔ ¬ (0 ≤ b ∧ b < B) := by simp only [hasB, decide_eq_false_iff_not]

theorem hasBus_any (B : Int) (A : Option Addr) (n c : Nat) (b : Int) (w : World) :
    Calls Try.prog 42 #[.agg #[.int .i64 B, .slice A n c], .int .i64 b] w fun e w' => e = .returned (.bool (hasB B b)) ∧ Below w.heap.size w w' := by
  go_enter Try.func42, Try.ntmps42
  go_wp2
  all_goals (go_ret; refine ⟨congrArg (fun b => Ending.returned (Value.bool b)) ?_, (Below.refl _ _).alloc (Nat.le_refl _) _⟩)
  all_goals (simp only [hasB] at *; first | (refine (decide_eq_true ?_).symm; omega) | (refine (decide_eq_false ?_).symm; omega) | (refine decide_eq_decide.2 ?_; omega))

set_option maxHeartbeats 4000000 in
theorem implNetValid_any (B : Int) (A : Option Addr) (c : Nat) (xs : List R3) (w : World) (hR : Reads 3 r3C w w.heap.size A xs) (hl : xs.length ≤ 1048576) :
    Calls Try.prog 41 #[.agg #[.int .i64 B, .slice A xs.length c]] w fun e w' => e = .returned (.bool (netV B xs)) ∧ Below w.heap.size w w' := by
  have HR := Lib.hid hR; clear hR
  generalize hV : netV B xs = V
  have HV := Lib.hid hV; clear hV
  generalize hn : xs.length = n at hl ⊢
  have HN := Lib.hid hn; clear hn
  by_cases h8 : 1 ≤ B ∧ B ≤ 8 ∧ n ≤ 10
  · obtain ⟨hB1, hB2, hn10⟩ := h8
    go_enter Try.func41, Try.ntmps41
    go_wp2_with fail
    all_goals try (exfalso; omega; done)
    go_loopw [22] (fun t wr => ∃ i : Nat, t = .int .i64 i ∧ i ≤ n ∧ Hid (∀ j (hj : j < xs.length), j < i → LineOk B xs[j]) ∧ Hid (Bk wr w.heap.size 30 #[.int .i64 B, .slice A n c]) ∧ Hid (Below w.heap.size w wr)) (fun t _ => n - (intOf t).toNat)
    case atStart => exact ⟨0, rfl, Nat.zero_le _, fun j _ hj => absurd hj (by omega), Bk.new _ _ _, Below.alloc (Below.refl _ _) (Nat.le_refl _) _⟩
    case round =>
      obtain ⟨i, rfl, hi, HA, HK, HB⟩ := hrel
      by_cases hlt : i < n
      · have hx : i < xs.length := by rw [HN.out]; exact hlt
        obtain ⟨b, off, rfl, hb, hc0, hc1, hc2⟩ := HR.out.at3 hx
        have hc0 := (HB.out.cell (p := ⟨b, off + i * 3, none⟩) hb).trans hc0
        have hc1 := (HB.out.cell (p := ⟨b, off + i * 3 + 1, none⟩) hb).trans hc1
        have hc2 := (HB.out.cell (p := ⟨b, off + i * 3 + 2, none⟩) hb).trans hc2
        generalize hxx : xs[i] = x at hc0 hc1 hc2
        have HXX := Lib.hid hxx; clear hxx
        have cB := HK.out.cell
        have zB := HK.out.lt
        by_cases hok : LineOk B x
        · have hok2 := hok
          unfold LineOk at hok2
          obtain ⟨q1, q2, q3, q4, q5, q6, q7⟩ := hok2
          have i1 : hasB B x.a = true := hasB_t.2 ⟨q1, q2⟩
          have i2 : hasB B x.b = true := hasB_t.2 ⟨q3, q4⟩
          have i3 : (x.a == x.b) = false := by simp [q5]
          clear q5
          go_wp2_with fail; ((with_reducible refine (hasBus_any _ _ _ _ _ _).mono ?_); rintro e w1 ⟨rfl, hb_1⟩); have cB0_1 := keepB hb_1 (g := w.heap.size) (by go_size); have fB0_1 := keepF hb_1 (g := w.heap.size) (by go_size); have zB0_1 := keepZ hb_1 (g := w.heap.size) (by go_size); have cB1_1 := keepB hb_1 (g := wr.heap.size) (by go_size); have fB1_1 := keepF hb_1 (g := wr.heap.size) (by go_size); have zB1_1 := keepZ hb_1 (g := wr.heap.size) (by go_size); have hz_1 := hb_1.size; (try simp only [World.size_alloc, World.size_setCell, World.size_drew] at hz_1)
          go_wp2_with fail; ((with_reducible refine (hasBus_any _ _ _ _ _ _).mono ?_); rintro e w2 ⟨rfl, hb_2⟩); have cB0_2 := keepB hb_2 (g := w.heap.size) (by go_size); have fB0_2 := keepF hb_2 (g := w.heap.size) (by go_size); have zB0_2 := keepZ hb_2 (g := w.heap.size) (by go_size); have cB1_2 := keepB hb_2 (g := wr.heap.size) (by go_size); have fB1_2 := keepF hb_2 (g := wr.heap.size) (by go_size); have zB1_2 := keepZ hb_2 (g := wr.heap.size) (by go_size); have hz_2 := hb_2.size; (try simp only [World.size_alloc, World.size_setCell, World.size_drew] at hz_2)
          go_wp2_with fail
          all_goals try (exfalso; omega; done)
          refine ⟨⟨i + 1, by go_num, by omega, (fun j hj hji => ?_), ((HK.out.alloc _).keep hb_1).keep hb_2, by unfold Hid; have hB := HB.out; (repeat' (first | (with_reducible exact Below.refl _ _) | (with_reducible refine Below.alloc ?_ ?_ _) | (with_reducible refine Below.setCell ?_ ?_ _) | (with_reducible refine Below.drew ?_) | (refine Below.trans ?_ (Below.mono (by with_reducible assumption) ?_)) | go_size))⟩, by simp [intOf]; omega⟩
          by_cases e : j = i
          · subst e; rw [HXX.out]; exact hok
          · exact HA.out j hj (by omega)
        · have HOK := Lib.hid hok; clear hok
          go_wp2_with (first | (go_at_call 42; refine (hasBus_any _ _ _ _ _ _).mono ?_; rintro e w1 ⟨rfl, hb⟩; have cB0 := keepB hb (g := w.heap.size) (by go_size); have fB0 := keepF hb (g := w.heap.size) (by go_size); have zB0 := keepZ hb (g := w.heap.size) (by go_size); have cB1 := keepB hb (g := wr.heap.size) (by go_size); have fB1 := keepF hb (g := wr.heap.size) (by go_size); have zB1 := keepZ hb (g := wr.heap.size) (by go_size); have hz := hb.size; (try simp only [World.size_alloc, World.size_setCell, World.size_drew] at hz)))
          all_goals try (exfalso; apply HOK.out; unfold LineOk; simp only [Bool.not_eq_true', Bool.not_eq_false', hasB_t, hasB_f, beqd, decide_eq_false_iff_not, decide_eq_true_eq] at *; omega; done)
          all_goals (go_ret; have hV := HV.out; rw [netV_f.2 (fun hp => HOK.out (by rw [← HXX.out]; exact hp.2.2.2 _ (List.getElem_mem hx)))] at hV; refine ⟨by rw [← hV]; rfl, ?_⟩; have hB := HB.out; (repeat' (first | (with_reducible exact Below.refl _ _) | (with_reducible refine Below.alloc ?_ ?_ _) | (with_reducible refine Below.setCell ?_ ?_ _) | (with_reducible refine Below.drew ?_) | (refine Below.trans ?_ (Below.mono (by with_reducible assumption) ?_)) | go_size)))
      · go_wp2
        go_ret
        have hV := HV.out
        have hn := HN.out
        rw [netV_t.2 ⟨hB1, hB2, by omega, fun x hx => by obtain ⟨j, hj, rfl⟩ := List.mem_iff_getElem.1 hx; exact HA.out j hj (by omega)⟩] at hV
        exact ⟨by rw [← hV]; rfl, HB.out⟩
  · have H8 := Lib.hid h8; clear h8
    go_enter Try.func41, Try.ntmps41
    go_wp2_with fail
    all_goals try (exfalso; apply H8.out; omega; done)
    all_goals (go_ret; have hV := HV.out; have hn := HN.out; rw [netV_f.2 (fun hp => H8.out ⟨hp.1, hp.2.1, by have := hp.2.2.1; omega⟩)] at hV; exact ⟨by rw [← hV]; rfl, (Below.refl _ _).alloc (Nat.le_refl _) _⟩)
theorem implNetValid_n (B : Int) (A : Option Addr) (n c : Nat) (xs : List R3) (w : World) (hn : xs.length = n) (hR : Reads 3 r3C w w.heap.size A xs) (hl : xs.length ≤ 1048576) :
    Calls Try.prog 41 #[.agg #[.int .i64 B, .slice A n c]] w fun e w' => e = .returned (.bool (netV B xs)) ∧ Below w.heap.size w w' := by
  subst hn; exact implNetValid_any B A c xs w hR hl
end Go.Proofs.Ytdfgdeccejcpfaa
