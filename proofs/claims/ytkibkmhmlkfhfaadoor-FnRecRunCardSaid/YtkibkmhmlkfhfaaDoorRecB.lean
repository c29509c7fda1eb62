/- The recloser's step: contracts of the program's and the reference's functions. -/
import Derived.Test.YtkibkmhmlkfhfaaDoorRecA
import Derived.Test.YtkibkmhmlkfhfaaDoorRk
import Derived.Deep.Light
namespace Go.Proofs.YtkibkmhmlkfhfaaDoor
open Go.RowKit
set_option linter.unusedSimpArgs false
set_option linter.unusedVariables false

abbrev rv (r : R4) : Value := .agg #[.int .i64 r.a, .int .i64 r.b, .int .i64 r.c, .int .i64 r.d]
theorem rv_eq {r : R4} {a b c d : Int} (h : r.a = a ∧ r.b = b ∧ r.c = c ∧ r.d = d) : Ending.returned (.agg #[.int .i64 a, .int .i64 b, .int .i64 c, .int .i64 d]) = Ending.returned (rv r) := by
  obtain ⟨rfl, rfl, rfl, rfl⟩ := h; rfl

def RecP (s sh wt g : Int) : Prop := (s = 0 ∧ 0 ≤ sh ∧ sh ≤ 3 ∧ wt = 0 ∧ 0 ≤ g ∧ g ≤ 4 ∧ (0 < sh ∨ g = 0)) ∨ (s = 1 ∧ 0 ≤ sh ∧ sh ≤ 2 ∧ 1 ≤ wt ∧ wt ≤ 1 + 2 * sh ∧ g = 0) ∨ (s = 2 ∧ sh = 3 ∧ wt = 0 ∧ g = 0)
theorem recV_t {s sh wt g : Int} : recV s sh wt g = true ↔ RecP s sh wt g := by simp [recV, RecP]
theorem recV_f {s sh wt g : Int} : recV s sh wt g = false ↔ ¬ RecP s sh wt g := by simp only [recV, RecP, decide_eq_false_iff_not]

def recStep (s sh wt g : Int) (f : Bool) : R4 :=
  if recV s sh wt g = false then ⟨0, 0, 0, 0⟩
  else if s = 0 then
    if f = true then (if sh = 3 then ⟨2, 3, 0, 0⟩ else ⟨1, sh, 1 + 2 * sh, 0⟩)
    else if 0 < sh then (if g = 4 then ⟨0, 0, 0, 0⟩ else ⟨0, sh, 0, g + 1⟩) else ⟨s, sh, wt, g⟩
  else if s = 1 then (if wt = 1 then ⟨0, sh + 1, 0, 0⟩ else ⟨1, sh, wt - 1, 0⟩)
  else ⟨s, sh, wt, g⟩

/-- The step's outcome, in a form that linear arithmetic reads. -/
theorem recStep_not {s sh wt g : Int} {f : Bool} (h : ¬ RecP s sh wt g) : recStep s sh wt g f = ⟨0, 0, 0, 0⟩ := by unfold recStep; rw [if_pos (recV_f.2 h)]
theorem recStep_lin_t {s sh wt g : Int} (h : RecP s sh wt g) :
    ((recStep s sh wt g true).a = 2 ∧ (recStep s sh wt g true).b = 3 ∧ (recStep s sh wt g true).c = 0 ∧ (recStep s sh wt g true).d = 0 ∧ s = 0 ∧ sh = 3) ∨
    ((recStep s sh wt g true).a = 1 ∧ (recStep s sh wt g true).b = sh ∧ (recStep s sh wt g true).c = 1 + 2 * sh ∧ (recStep s sh wt g true).d = 0 ∧ s = 0 ∧ ¬ sh = 3) ∨
    ((recStep s sh wt g true).a = 0 ∧ (recStep s sh wt g true).b = sh + 1 ∧ (recStep s sh wt g true).c = 0 ∧ (recStep s sh wt g true).d = 0 ∧ s = 1 ∧ wt = 1) ∨
    ((recStep s sh wt g true).a = 1 ∧ (recStep s sh wt g true).b = sh ∧ (recStep s sh wt g true).c = wt - 1 ∧ (recStep s sh wt g true).d = 0 ∧ s = 1 ∧ ¬ wt = 1) ∨
    ((recStep s sh wt g true).a = s ∧ (recStep s sh wt g true).b = sh ∧ (recStep s sh wt g true).c = wt ∧ (recStep s sh wt g true).d = g ∧ s = 2) := by
  have hv := recV_t.2 h
  unfold recStep
  rw [if_neg (by simp [hv])]
  unfold RecP at h
  by_cases h0 : s = 0
  · by_cases h3 : sh = 3 <;> simp [h0, h3]
  · by_cases h1 : s = 1
    · by_cases h3 : wt = 1 <;> simp [h1, h3]
    · have h2 : s = 2 := by omega
      simp [h2]
theorem recStep_lin_f {s sh wt g : Int} (h : RecP s sh wt g) :
    ((recStep s sh wt g false).a = 0 ∧ (recStep s sh wt g false).b = 0 ∧ (recStep s sh wt g false).c = 0 ∧ (recStep s sh wt g false).d = 0 ∧ s = 0 ∧ 0 < sh ∧ g = 4) ∨
    ((recStep s sh wt g false).a = 0 ∧ (recStep s sh wt g false).b = sh ∧ (recStep s sh wt g false).c = 0 ∧ (recStep s sh wt g false).d = g + 1 ∧ s = 0 ∧ 0 < sh ∧ ¬ g = 4) ∨
    ((recStep s sh wt g false).a = s ∧ (recStep s sh wt g false).b = sh ∧ (recStep s sh wt g false).c = wt ∧ (recStep s sh wt g false).d = g ∧ s = 0 ∧ sh = 0) ∨
    ((recStep s sh wt g false).a = 0 ∧ (recStep s sh wt g false).b = sh + 1 ∧ (recStep s sh wt g false).c = 0 ∧ (recStep s sh wt g false).d = 0 ∧ s = 1 ∧ wt = 1) ∨
    ((recStep s sh wt g false).a = 1 ∧ (recStep s sh wt g false).b = sh ∧ (recStep s sh wt g false).c = wt - 1 ∧ (recStep s sh wt g false).d = 0 ∧ s = 1 ∧ ¬ wt = 1) ∨
    ((recStep s sh wt g false).a = s ∧ (recStep s sh wt g false).b = sh ∧ (recStep s sh wt g false).c = wt ∧ (recStep s sh wt g false).d = g ∧ s = 2) := by
  have hv := recV_t.2 h
  unfold recStep
  rw [if_neg (by simp [hv])]
  unfold RecP at h
  by_cases h0 : s = 0
  · by_cases h3 : 0 < sh
    · by_cases h4 : g = 4 <;> simp [h0, h3, h4]
    · have h5 : sh = 0 := by omega
      simp [h0, h5]
  · by_cases h1 : s = 1
    · by_cases h3 : wt = 1 <;> simp [h1, h3]
    · have h2 : s = 2 := by omega
      simp [h2]

set_option maxHeartbeats 4000000 in
theorem specRecStep_any (s sh wt g : Int) (f : Bool) (w : World) :
    Calls Tryd.prog 14 #[.agg #[.int .i64 s, .int .i64 sh, .int .i64 wt, .int .i64 g], .bool f] w fun e w' => e = .returned (rv (recStep s sh wt g f)) ∧ Below w.heap.size w w' := by
  by_cases hv : recV s sh wt g = true
  · have hp := recV_t.1 hv
    cases f
    · have hl := recStep_lin_f hp
      unfold RecP at hp
      generalize recStep s sh wt g false = r at hl ⊢
      have HL := Lib.hid hl; clear hl
      have HP := Lib.hid hp; clear hp
      go_enter Tryd.func14, Tryd.ntmps14
      go_wp2_with (first | (go_at_call 10; refine (specRecValid_any _ _ _ _ _).mono ?_; rintro e w1 ⟨rfl, hb⟩; have cB0 := keepB hb (g := w.heap.size) (by go_size); have fB0 := keepF hb (g := w.heap.size) (by go_size); have zB0 := keepZ hb (g := w.heap.size) (by go_size); have cB1 := keepB hb (g := w.heap.size + 1) (by go_size); have fB1 := keepF hb (g := w.heap.size + 1) (by go_size); have zB1 := keepZ hb (g := w.heap.size + 1) (by go_size); have hz := hb.size; (try simp only [World.size_alloc, World.size_setCell, World.size_drew] at hz)))
      all_goals (refine bodyPost_ret (by simp [results, Tryd.results14, go_sem, cB1]; try rfl) rfl ?_; go_light; refine ⟨rv_eq ?_, ?_⟩; (have hl := HL.out; have hp := HP.out; clear HL HP; (try simp only [beqd, wrap64, IntKind.wrap_i64, decide_eq_false_iff_not, decide_eq_true_eq] at *); omega); (repeat' (first | (with_reducible exact Below.refl _ _) | (with_reducible refine Below.alloc ?_ ?_ _) | (with_reducible refine Below.setCell ?_ ?_ _) | (with_reducible refine Below.drew ?_) | (refine Below.trans ?_ (Below.mono (by with_reducible assumption) ?_)) | go_size)))
    · have hl := recStep_lin_t hp
      unfold RecP at hp
      generalize recStep s sh wt g true = r at hl ⊢
      have HL := Lib.hid hl; clear hl
      have HP := Lib.hid hp; clear hp
      go_enter Tryd.func14, Tryd.ntmps14
      go_wp2_with (first | (go_at_call 10; refine (specRecValid_any _ _ _ _ _).mono ?_; rintro e w1 ⟨rfl, hb⟩; have cB0 := keepB hb (g := w.heap.size) (by go_size); have fB0 := keepF hb (g := w.heap.size) (by go_size); have zB0 := keepZ hb (g := w.heap.size) (by go_size); have cB1 := keepB hb (g := w.heap.size + 1) (by go_size); have fB1 := keepF hb (g := w.heap.size + 1) (by go_size); have zB1 := keepZ hb (g := w.heap.size + 1) (by go_size); have hz := hb.size; (try simp only [World.size_alloc, World.size_setCell, World.size_drew] at hz)))
      all_goals (refine bodyPost_ret (by simp [results, Tryd.results14, go_sem, cB1]; try rfl) rfl ?_; go_light; refine ⟨rv_eq ?_, ?_⟩; (have hl := HL.out; have hp := HP.out; clear HL HP; (try simp only [beqd, wrap64, IntKind.wrap_i64, decide_eq_false_iff_not, decide_eq_true_eq] at *); omega); (repeat' (first | (with_reducible exact Below.refl _ _) | (with_reducible refine Below.alloc ?_ ?_ _) | (with_reducible refine Below.setCell ?_ ?_ _) | (with_reducible refine Below.drew ?_) | (refine Below.trans ?_ (Below.mono (by with_reducible assumption) ?_)) | go_size)))
  · have hv : recV s sh wt g = false := by simpa using hv
    rw [recStep_not (recV_f.1 hv)]
    go_enter Tryd.func14, Tryd.ntmps14
    go_wp2_with (first | (go_at_call 10; refine (specRecValid_any _ _ _ _ _).mono ?_; rintro e w1 ⟨rfl, hb⟩; have cB0 := keepB hb (g := w.heap.size) (by go_size); have fB0 := keepF hb (g := w.heap.size) (by go_size); have zB0 := keepZ hb (g := w.heap.size) (by go_size); have cB1 := keepB hb (g := w.heap.size + 1) (by go_size); have fB1 := keepF hb (g := w.heap.size + 1) (by go_size); have zB1 := keepZ hb (g := w.heap.size + 1) (by go_size); have hz := hb.size; (try simp only [World.size_alloc, World.size_setCell, World.size_drew] at hz)))
    all_goals (refine bodyPost_ret (by simp [results, Tryd.results14, go_sem, cB1]; try rfl) rfl ?_; refine ⟨rfl, ?_⟩; (repeat' (first | (with_reducible exact Below.refl _ _) | (with_reducible refine Below.alloc ?_ ?_ _) | (with_reducible refine Below.setCell ?_ ?_ _) | (with_reducible refine Below.drew ?_) | (refine Below.trans ?_ (Below.mono (by with_reducible assumption) ?_)) | go_size)))

set_option maxHeartbeats 4000000 in
theorem implRecStep_any (s sh wt g : Int) (f : Bool) (w : World) :
    Calls Tryd.prog 13 #[.agg #[.int .i64 s, .int .i64 sh, .int .i64 wt, .int .i64 g], .bool f] w fun e w' => e = .returned (rv (recStep s sh wt g f)) ∧ Below w.heap.size w w' := by
  by_cases hv : recV s sh wt g = true
  · have hp := recV_t.1 hv
    cases f
    · have hl := recStep_lin_f hp
      unfold RecP at hp
      generalize recStep s sh wt g false = r at hl ⊢
      have HL := Lib.hid hl; clear hl
      have HP := Lib.hid hp; clear hp
      go_enter Tryd.func13, Tryd.ntmps13
      go_wp2_with (first | (go_at_call 9; refine (implRecValid_any _ _ _ _ _).mono ?_; rintro e w1 ⟨rfl, hb⟩; have cB0 := keepB hb (g := w.heap.size) (by go_size); have fB0 := keepF hb (g := w.heap.size) (by go_size); have zB0 := keepZ hb (g := w.heap.size) (by go_size); have cB1 := keepB hb (g := w.heap.size + 1) (by go_size); have fB1 := keepF hb (g := w.heap.size + 1) (by go_size); have zB1 := keepZ hb (g := w.heap.size + 1) (by go_size); have hz := hb.size; (try simp only [World.size_alloc, World.size_setCell, World.size_drew] at hz)))
      all_goals (refine bodyPost_ret (by simp [results, Tryd.results13, go_sem, cB1]; try rfl) rfl ?_; go_light; refine ⟨rv_eq ?_, ?_⟩; (have hl := HL.out; have hp := HP.out; clear HL HP; (try simp only [beqd, wrap64, IntKind.wrap_i64, decide_eq_false_iff_not, decide_eq_true_eq] at *); omega); (repeat' (first | (with_reducible exact Below.refl _ _) | (with_reducible refine Below.alloc ?_ ?_ _) | (with_reducible refine Below.setCell ?_ ?_ _) | (with_reducible refine Below.drew ?_) | (refine Below.trans ?_ (Below.mono (by with_reducible assumption) ?_)) | go_size)))
    · have hl := recStep_lin_t hp
      unfold RecP at hp
      generalize recStep s sh wt g true = r at hl ⊢
      have HL := Lib.hid hl; clear hl
      have HP := Lib.hid hp; clear hp
      go_enter Tryd.func13, Tryd.ntmps13
      go_wp2_with (first | (go_at_call 9; refine (implRecValid_any _ _ _ _ _).mono ?_; rintro e w1 ⟨rfl, hb⟩; have cB0 := keepB hb (g := w.heap.size) (by go_size); have fB0 := keepF hb (g := w.heap.size) (by go_size); have zB0 := keepZ hb (g := w.heap.size) (by go_size); have cB1 := keepB hb (g := w.heap.size + 1) (by go_size); have fB1 := keepF hb (g := w.heap.size + 1) (by go_size); have zB1 := keepZ hb (g := w.heap.size + 1) (by go_size); have hz := hb.size; (try simp only [World.size_alloc, World.size_setCell, World.size_drew] at hz)))
      all_goals (refine bodyPost_ret (by simp [results, Tryd.results13, go_sem, cB1]; try rfl) rfl ?_; go_light; refine ⟨rv_eq ?_, ?_⟩; (have hl := HL.out; have hp := HP.out; clear HL HP; (try simp only [beqd, wrap64, IntKind.wrap_i64, decide_eq_false_iff_not, decide_eq_true_eq] at *); omega); (repeat' (first | (with_reducible exact Below.refl _ _) | (with_reducible refine Below.alloc ?_ ?_ _) | (with_reducible refine Below.setCell ?_ ?_ _) | (with_reducible refine Below.drew ?_) | (refine Below.trans ?_ (Below.mono (by with_reducible assumption) ?_)) | go_size)))
  · have hv : recV s sh wt g = false := by simpa using hv
    rw [recStep_not (recV_f.1 hv)]
    go_enter Tryd.func13, Tryd.ntmps13
    go_wp2_with (first | (go_at_call 9; refine (implRecValid_any _ _ _ _ _).mono ?_; rintro e w1 ⟨rfl, hb⟩; have cB0 := keepB hb (g := w.heap.size) (by go_size); have fB0 := keepF hb (g := w.heap.size) (by go_size); have zB0 := keepZ hb (g := w.heap.size) (by go_size); have cB1 := keepB hb (g := w.heap.size + 1) (by go_size); have fB1 := keepF hb (g := w.heap.size + 1) (by go_size); have zB1 := keepZ hb (g := w.heap.size + 1) (by go_size); have hz := hb.size; (try simp only [World.size_alloc, World.size_setCell, World.size_drew] at hz)))
    all_goals (refine bodyPost_ret (by simp [results, Tryd.results13, go_sem, cB1]; try rfl) rfl ?_; refine ⟨rfl, ?_⟩; (repeat' (first | (with_reducible exact Below.refl _ _) | (with_reducible refine Below.alloc ?_ ?_ _) | (with_reducible refine Below.setCell ?_ ?_ _) | (with_reducible refine Below.drew ?_) | (refine Below.trans ?_ (Below.mono (by with_reducible assumption) ?_)) | go_size)))
end Go.Proofs.YtkibkmhmlkfhfaaDoor
