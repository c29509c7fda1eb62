/- spec.ShedLeast. -/
import Derived.Test.YtecekhjlapaofaaShL
namespace Go.Proofs.Ytecekhjlapaofaa
open Go.RowKit Go.Deep
set_option linter.unusedSimpArgs false
set_option linter.unusedVariables false
theorem slO_none {xs : List R2} {need : Int} (h : slBest xs need (2 ^ xs.length) < 0) : slO xs need = none := by
  unfold slO
  by_cases hp : BlksP xs
  · rw [if_pos hp, if_pos h]
  · rw [if_neg hp]
theorem slO_some {xs : List R2} {need : Int} {b : Nat} (hp : BlksP xs) (h : slBest xs need (2 ^ xs.length) = (b : Int)) : slO xs need = some (setIdx b) := by
  unfold slO; rw [if_pos hp, h, if_neg (by omega), Int.toNat_natCast]
theorem slO_bad {xs : List R2} {need : Int} (hp : ¬ BlksP xs) : slO xs need = none := by unfold slO; rw [if_neg hp]
theorem pow_bd8 {n : Nat} (h : n ≤ 8) : 1 ≤ 2 ^ n ∧ 2 ^ n ≤ 256 := by
  refine ⟨Nat.one_le_two_pow, ?_⟩
  have : 2 ^ n ≤ 2 ^ 8 := Nat.pow_le_pow_right (by omega) h
  simpa using this
theorem slBest_take {xs : List R2} {need : Int} {s : Nat} (h : slBetter xs need s (slBest xs need s)) : slBest xs need (s + 1) = (s : Int) := by simp only [slBest]; rw [if_pos h]
theorem slBest_keep {xs : List R2} {need : Int} {s : Nat} (h : ¬ slBetter xs need s (slBest xs need s)) : slBest xs need (s + 1) = slBest xs need s := by simp only [slBest]; rw [if_neg h]
/-- What the reference's sum of a set is. -/
def HSumT (A : Option Addr) (c : Nat) (xs : List R2) : Prop := ∀ (s : Nat) (W : World) (B : Option Addr) (d n : Nat), s < 2 ^ xs.length → Reads 2 r2C W W.heap.size A xs → Reads 1 intC W W.heap.size B (setIdx s) → (setIdx s).length = n → Calls Try.prog 11 #[.slice A xs.length c, .slice B n d] W fun e w' => e = .returned (.int .i64 (setSum xs s xs.length)) ∧ Below W.heap.size W w'
theorem hsum_t (A : Option Addr) (c : Nat) {xs : List R2} (hp : BlksP xs) (hl : xs.length ≤ 1048576) : HSumT A c xs := by
  intro s W B d n hs h1 h2 hn
  subst hn
  have := specShedSum_any A B c d xs (setIdx s) W h1 h2 (setIdx_I64 s) hl (by have := setIdx_len s; omega)
  rw [shed_set hp hs] at this
  exact this
theorem set_ret {s : Nat} (hs : s < 256) (W : World) : Calls Try.prog 23 #[.int .i64 s] W fun e w' => ∃ B d, e = .returned (.slice B (popN s) d) ∧ Reads 1 intC w' w'.heap.size B (setIdx s) ∧ Below W.heap.size W w' := by
  refine (l19Set_any s hs W).mono fun e w' hh => ?_
  obtain ⟨v, he, hr, hb⟩ := hh
  obtain ⟨B, d, hv, h⟩ := hr
  subst hv
  rw [← pop_set s hs] at he
  refine ⟨B, d, he, ?_, hb⟩
  exact (Res.reads (T := 3) (B := W.heap.size) (cp := d) (n := (setIdx s).length) ⟨B, d, rfl, h⟩).1
end Go.Proofs.Ytecekhjlapaofaa
