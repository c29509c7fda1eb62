/- Relays: validity and time. -/
import Derived.Test.YtkndokcpnlbipaaDoorL1
namespace Go.Proofs.YtkndokcpnlbipaaDoor
open Go.RowKit
set_option linter.unusedSimpArgs false
set_option linter.unusedVariables false

def RelP (p d : Int) : Prop := 1 ≤ p ∧ p ≤ 400 ∧ 1 ≤ d ∧ d ≤ 60
instance (p d : Int) : Decidable (RelP p d) := by unfold RelP; infer_instance
def relV (p d : Int) : Bool := decide (RelP p d)
theorem relV_t {p d : Int} : relV p d = true ↔ RelP p d := by simp [relV]
theorem relV_f {p d : Int} : relV p d = false ↔ ¬ RelP p d := by simp [relV]

theorem implRelayValid_any (p d : Int) (w : World) :
    Calls Tryd.prog 19 #[.agg #[.int .i64 p, .int .i64 d]] w fun e w' => e = .returned (.bool (relV p d)) ∧ Below w.heap.size w w' := by
  go_enter Tryd.func19, Tryd.ntmps19
  go_wp2
  all_goals (go_ret; refine ⟨congrArg (fun b => Ending.returned (Value.bool b)) ?_, (Below.refl _ _).alloc (Nat.le_refl _) _⟩)
  all_goals (simp only [relV, RelP, ← Bool.decide_and] at *; first | (refine (decide_eq_true ?_).symm; omega) | (refine (decide_eq_false ?_).symm; omega) | (refine decide_eq_decide.2 ?_; omega))

theorem specRelayValid_any (p d : Int) (w : World) :
    Calls Tryd.prog 36 #[.agg #[.int .i64 p, .int .i64 d]] w fun e w' => e = .returned (.bool (relV p d)) ∧ Below w.heap.size w w' := by
  go_enter Tryd.func36, Tryd.ntmps36
  go_wp2_with (go_at_call 37; refine (l1In_any _ _ _ _).mono ?_; rintro e w' ⟨rfl, rfl⟩)
  all_goals (go_ret; refine ⟨congrArg (fun b => Ending.returned (Value.bool b)) ?_, (Below.refl _ _).alloc (Nat.le_refl _) _⟩)
  all_goals (simp only [relV, RelP, inB, ← Bool.decide_and, decide_eq_true_eq, decide_eq_false_iff_not] at *; first | (refine (decide_eq_true ?_).symm; omega) | (refine (decide_eq_false ?_).symm; omega) | (refine decide_eq_decide.2 ?_; omega))

theorem currentValid_any (n : Int) (w : World) :
    Calls Tryd.prog 34 #[.int .i64 n] w fun e w' => e = .returned (.bool (inB n 0 400)) ∧ w = w' := by
  go_enter Tryd.func34, Tryd.ntmps34
  go_wp2
  all_goals (go_ret; refine ⟨congrArg (fun b => Ending.returned (Value.bool b)) ?_, rfl⟩)
  all_goals (simp only [inB, ← Bool.decide_and]; first | (refine (decide_eq_true ?_).symm; omega) | (refine (decide_eq_false ?_).symm; omega) | (refine decide_eq_decide.2 ?_; omega))

/-- When a valid relay trips at a current. -/
def rtime (p d c : Int) : Int := if c ≤ p then -1 else (100 * d + (c - p) - 1) / (c - p)
theorem rtime_le {p d c : Int} (h : c ≤ p) : rtime p d c = -1 := by simp [rtime, h]
theorem rtime_gt {p d c : Int} (h : p < c) : rtime p d c = (100 * d + (c - p) - 1) / (c - p) := by unfold rtime; rw [if_neg (by omega)]
theorem rtime_bd {p d c : Int} (h : RelP p d) : -1 ≤ rtime p d c ∧ rtime p d c ≤ 6000 := by
  unfold RelP at h
  by_cases hc : c ≤ p
  · rw [rtime_le hc]; omega
  · rw [rtime_gt (by omega)]
    have h1 : 0 ≤ (100 * d + (c - p) - 1) / (c - p) := Int.ediv_nonneg (by omega) (by omega)
    have h2 : (100 * d + (c - p) - 1) / (c - p) ≤ 6000 := by
      apply Int.le_of_lt_add_one
      apply Int.ediv_lt_of_lt_mul (by omega)
      have : (6000 + 1) * 1 ≤ (6000 + 1) * (c - p) := Int.mul_le_mul_of_nonneg_left (by omega) (by omega)
      have : 6000 * 1 ≤ 6000 * (c - p) := Int.mul_le_mul_of_nonneg_left (by omega) (by omega)
      omega
    omega
theorem rtime_pos {p d c : Int} (h : RelP p d) (hc : p < c) : 1 ≤ rtime p d c := by
  unfold RelP at h
  rw [rtime_gt hc]
  apply Int.le_ediv_of_mul_le (by omega)
  omega

theorem time_any (p d c : Int) (w : World) (h : RelP p d) (h0 : 0 ≤ c) (h4 : c ≤ 400) :
    Calls Tryd.prog 35 #[.agg #[.int .i64 p, .int .i64 d], .int .i64 c] w fun e w' => e = .returned (.int .i64 (rtime p d c)) ∧ Below w.heap.size w w' := by
  unfold RelP at h
  obtain ⟨h1, h2, h3, h5⟩ := h
  by_cases hc : c ≤ p
  · rw [rtime_le hc]
    go_enter Tryd.func35, Tryd.ntmps35
    go_wp2
    go_ret
    refine ⟨rfl, ?_⟩; (repeat' (first | (with_reducible exact Below.refl _ _) | (with_reducible refine Below.alloc ?_ ?_ _) | (with_reducible refine Below.setCell ?_ ?_ _) | (with_reducible refine Below.drew ?_) | (refine Below.trans ?_ (Below.mono (by with_reducible assumption) ?_)) | go_size))
  · rw [rtime_gt (by omega)]
    have hc' : p < c := by omega
    have hne : ((c - p : Int) == 0) = false := by rw [beq_eq_false_iff_ne]; omega
    go_enter Tryd.func35, Tryd.ntmps35
    go_wp2
    go_ret
    refine ⟨rfl, ?_⟩; (repeat' (first | (with_reducible exact Below.refl _ _) | (with_reducible refine Below.alloc ?_ ?_ _) | (with_reducible refine Below.setCell ?_ ?_ _) | (with_reducible refine Below.drew ?_) | (refine Below.trans ?_ (Below.mono (by with_reducible assumption) ?_)) | go_size))

def srt (p d c : Int) : Int := if RelP p d ∧ p < c ∧ c ≤ 400 then rtime p d c else -1
theorem srt_in {p d c : Int} (h : RelP p d) (h4 : c ≤ 400) : srt p d c = rtime p d c := by
  unfold srt
  by_cases hc : p < c
  · rw [if_pos ⟨h, hc, h4⟩]
  · rw [if_neg (by omega), rtime_le (by omega)]
theorem specRelayTime_any (p d c : Int) (w : World) (hp : I64 p) (hc : I64 c) :
    Calls Tryd.prog 11 #[.agg #[.int .i64 p, .int .i64 d], .int .i64 c] w fun e w' => e = .returned (.int .i64 (srt p d c)) ∧ Below w.heap.size w w' := by
  unfold I64 at *
  by_cases hv : RelP p d
  · have hv' := relV_t.2 hv
    have hv2 := hv
    unfold RelP at hv2
    obtain ⟨h1, h2, h3, h4⟩ := hv2
    by_cases hi : p < c ∧ c ≤ 400
    · have hin : inB c (p + 1) 400 = true := inB_t.2 (by omega)
      have he : srt p d c = (100 * d + c - p - 1) / (c - p) := by rw [srt_in hv hi.2, rtime_gt hi.1]; congr 1; omega
      rw [he]
      obtain ⟨hi1, hi2⟩ := hi
      have hne : ((c - p : Int) == 0) = false := by rw [beq_eq_false_iff_ne]; omega
      clear he hv
      go_enter Tryd.func11, Tryd.ntmps11
      go_wp2_with (first | (go_at_call 37; refine (l1In_any _ _ _ _).mono ?_; rintro e w' ⟨rfl, rfl⟩) | (go_at_call 36; refine (specRelayValid_any _ _ _).mono ?_; rintro e w1 ⟨rfl, hb⟩; have cB0 := keepB hb (g := w.heap.size) (by go_size); have fB0 := keepF hb (g := w.heap.size) (by go_size); have zB0 := keepZ hb (g := w.heap.size) (by go_size); have hz := hb.size; (try simp only [World.size_alloc, World.size_setCell, World.size_drew] at hz)))
      go_ret
      refine ⟨rfl, ?_⟩; (repeat' (first | (with_reducible exact Below.refl _ _) | (with_reducible refine Below.alloc ?_ ?_ _) | (with_reducible refine Below.setCell ?_ ?_ _) | (with_reducible refine Below.drew ?_) | (refine Below.trans ?_ (Below.mono (by with_reducible assumption) ?_)) | go_size))
    · have hin : inB c (p + 1) 400 = false := inB_f.2 (by omega)
      have he : srt p d c = -1 := by unfold srt; rw [if_neg (by omega)]
      rw [he]
      clear he hv hi
      go_enter Tryd.func11, Tryd.ntmps11
      go_wp2_with (first | (go_at_call 37; refine (l1In_any _ _ _ _).mono ?_; rintro e w' ⟨rfl, rfl⟩) | (go_at_call 36; refine (specRelayValid_any _ _ _).mono ?_; rintro e w1 ⟨rfl, hb⟩; have cB0 := keepB hb (g := w.heap.size) (by go_size); have fB0 := keepF hb (g := w.heap.size) (by go_size); have zB0 := keepZ hb (g := w.heap.size) (by go_size); have hz := hb.size; (try simp only [World.size_alloc, World.size_setCell, World.size_drew] at hz)))
      go_ret
      refine ⟨rfl, ?_⟩; (repeat' (first | (with_reducible exact Below.refl _ _) | (with_reducible refine Below.alloc ?_ ?_ _) | (with_reducible refine Below.setCell ?_ ?_ _) | (with_reducible refine Below.drew ?_) | (refine Below.trans ?_ (Below.mono (by with_reducible assumption) ?_)) | go_size))
  · have hv' := relV_f.2 hv
    have he : srt p d c = -1 := by unfold srt; rw [if_neg (fun h => hv h.1)]
    rw [he]
    clear he hv
    go_enter Tryd.func11, Tryd.ntmps11
    go_wp2_with (first | (go_at_call 37; refine (l1In_any _ _ _ _).mono ?_; rintro e w' ⟨rfl, rfl⟩) | (go_at_call 36; refine (specRelayValid_any _ _ _).mono ?_; rintro e w1 ⟨rfl, hb⟩; have cB0 := keepB hb (g := w.heap.size) (by go_size); have fB0 := keepF hb (g := w.heap.size) (by go_size); have zB0 := keepZ hb (g := w.heap.size) (by go_size); have hz := hb.size; (try simp only [World.size_alloc, World.size_setCell, World.size_drew] at hz)))
    go_ret
    refine ⟨rfl, ?_⟩; (repeat' (first | (with_reducible exact Below.refl _ _) | (with_reducible refine Below.alloc ?_ ?_ _) | (with_reducible refine Below.setCell ?_ ?_ _) | (with_reducible refine Below.drew ?_) | (refine Below.trans ?_ (Below.mono (by with_reducible assumption) ?_)) | go_size))
end Go.Proofs.YtkndokcpnlbipaaDoor
