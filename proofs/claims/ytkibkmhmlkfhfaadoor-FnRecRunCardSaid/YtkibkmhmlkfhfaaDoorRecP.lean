/- A recloser's ticks: plain laws, by trying all states. -/
import Derived.Test.YtkibkmhmlkfhfaaDoorRecD
namespace Go.Proofs.YtkibkmhmlkfhfaaDoor
open Go.RowKit
set_option linter.unusedSimpArgs false
set_option linter.unusedVariables false

instance decRecP (a b c d : Int) : Decidable (RecP a b c d) := by unfold RecP; infer_instance

theorem rec_in {a b c d : Int} (h : RecP a b c d) : a ∈ [(0 : Int), 1, 2] ∧ b ∈ [(0 : Int), 1, 2, 3] ∧ c ∈ [(0 : Int), 1, 2, 3, 4, 5] ∧ d ∈ [(0 : Int), 1, 2, 3, 4] := by
  unfold RecP at h
  simp only [List.mem_cons, List.not_mem_nil, or_false]
  omega

def TicksP (a b c d : Int) : Prop :=
  (recTicks a b c d).toNat ≤ 10 ∧
  ((runOut a b c d (List.replicate (recTicks a b c d).toNat false)).a = 0 ∧ (runOut a b c d (List.replicate (recTicks a b c d).toNat false)).b = 0 ∧ (runOut a b c d (List.replicate (recTicks a b c d).toNat false)).c = 0 ∧ (runOut a b c d (List.replicate (recTicks a b c d).toNat false)).d = 0) ∧
  runN a b c d (List.replicate (recTicks a b c d).toNat false) = 0 ∧
  ((recTicks a b c d).toNat = 0 → a = 0 ∧ b = 0 ∧ c = 0 ∧ d = 0) ∧
  (¬ (recTicks a b c d).toNat = 0 → ¬ ((runOut a b c d (List.replicate ((recTicks a b c d).toNat - 1) false)).a = 0 ∧ (runOut a b c d (List.replicate ((recTicks a b c d).toNat - 1) false)).b = 0 ∧ (runOut a b c d (List.replicate ((recTicks a b c d).toNat - 1) false)).c = 0 ∧ (runOut a b c d (List.replicate ((recTicks a b c d).toNat - 1) false)).d = 0))
instance decTicksP (a b c d : Int) : Decidable (TicksP a b c d) := by unfold TicksP; infer_instance
theorem ticks_try : ∀ a ∈ [(0 : Int), 1, 2], ∀ b ∈ [(0 : Int), 1, 2, 3], ∀ c ∈ [(0 : Int), 1, 2, 3, 4, 5], ∀ d ∈ [(0 : Int), 1, 2, 3, 4], RecP a b c d → 0 ≤ recTicks a b c d → TicksP a b c d := by decide +kernel
theorem ticks_law {a b c d : Int} (h : RecP a b c d) (hx : 0 ≤ recTicks a b c d) : TicksP a b c d :=
  have k := rec_in h
  ticks_try a k.1 b k.2.1 c k.2.2.1 d k.2.2.2 h hx

theorem lasting_try : ∀ a ∈ [(0 : Int), 1, 2], ∀ b ∈ [(0 : Int), 1, 2, 3], ∀ c ∈ [(0 : Int), 1, 2, 3, 4, 5], ∀ d ∈ [(0 : Int), 1, 2, 3, 4], RecP a b c d → (runOut a b c d (List.replicate 40 true)).a = 2 ∧ runN a b c d (List.replicate 40 true) = (3 - b) + (if a = 0 then 1 else 0) := by decide +kernel
theorem lasting_law {a b c d : Int} (h : RecP a b c d) : (runOut a b c d (List.replicate 40 true)).a = 2 ∧ runN a b c d (List.replicate 40 true) = (3 - b) + (if a = 0 then 1 else 0) :=
  have k := rec_in h
  lasting_try a k.1 b k.2.1 c k.2.2.1 d k.2.2.2 h

theorem recRun_append (r : R4) (l m : List Bool) : recRun r (l ++ m) = recRun (recRun r l) m := by
  induction l generalizing r with
  | nil => rfl
  | cons f l ih => exact ih _
theorem recOpen_append (r : R4) (l m : List Bool) : recOpen r (l ++ m) = recOpen r l + recOpen (recRun r l) m := by
  induction l generalizing r with
  | nil => show _ = 0 + _; rw [Int.zero_add]; rfl
  | cons f l ih => simp only [recOpen, List.cons_append, ih, recRun]; omega
theorem recRun_P (r : R4) (l : List Bool) (h : RecP r.a r.b r.c r.d) : RecP (recRun r l).a (recRun r l).b (recRun r l).c (recRun r l).d := by
  induction l generalizing r with
  | nil => exact h
  | cons f l ih =>
    apply ih
    cases f
    · have hl := recStep_lin_f h
      generalize recStep r.a r.b r.c r.d false = q at *
      unfold RecP at *; omega
    · have hl := recStep_lin_t h
      generalize recStep r.a r.b r.c r.d true = q at *
      unfold RecP at *; omega
/-- In two parts. -/
theorem run_parts {a b c d : Int} (h : RecP a b c d) (l : List Bool) (k : Nat) : ∃ r : R4, runOut a b c d (l.take k) = r ∧ runOut r.a r.b r.c r.d (l.drop k) = runOut a b c d l ∧ runN a b c d (l.take k) + runN r.a r.b r.c r.d (l.drop k) = runN a b c d l := by
  refine ⟨_, rfl, ?_⟩
  have hv := recV_t.2 h
  have hp := recRun_P ⟨a, b, c, d⟩ (l.take k) h
  have hv2 := recV_t.2 hp
  have e : runOut a b c d (l.take k) = recRun ⟨a, b, c, d⟩ (l.take k) := by simp [runOut, hv]
  rw [e]
  have e2 : runOut a b c d l = recRun ⟨a, b, c, d⟩ l := by simp [runOut, hv]
  have e3 : runN a b c d l = recOpen ⟨a, b, c, d⟩ l := by simp [runN, hv]
  have e4 : runN a b c d (l.take k) = recOpen ⟨a, b, c, d⟩ (l.take k) := by simp [runN, hv]
  rw [e2, e3, e4]
  simp only [runOut, runN, hv2, if_true]
  constructor
  · rw [← recRun_append, List.take_append_drop]
  · rw [← recOpen_append, List.take_append_drop]
end Go.Proofs.YtkibkmhmlkfhfaaDoor
