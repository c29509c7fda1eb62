/- Parts of a slice: what 's[:h]' and 's[h:]' give. No program is in sight here. -/
import Derived.Test.YtdfgdeccejcpfaaDoorSl
namespace Go.Proofs.YtdfgdeccejcpfaaDoor
open Go.RowKit Go.Deep
set_option linter.unusedSimpArgs false
set_option linter.unusedVariables false
theorem Reads.dropS {α : Type} {k : Nat} {c : α → Nat → Value} {w : World} {B b off : Nat} {xs : List α} (h : Reads k c w B (some ⟨b, off, none⟩) xs) (m : Nat) : Reads k c w B (some ⟨b, off + m * k, none⟩) (xs.drop m) := by
  rcases h with h | ⟨b', off', hA, hb, hc⟩
  · left; rw [h]; simp
  · injection hA with hA; injection hA with e1 e2
    subst e1 e2
    refine .inr ⟨b, _, rfl, hb, fun i x hx j hj => ?_⟩
    rw [List.getElem?_drop] at hx
    have := hc (m + i) x hx j hj
    rw [← this]; congr 2; rw [Nat.add_mul]; omega
theorem Reads.takeS {α : Type} {k : Nat} {c : α → Nat → Value} {w : World} {B : Nat} {A : Option Addr} {xs : List α} (h : Reads k c w B A xs) (m : Nat) : Reads k c w B A (xs.take m) := by
  rcases h with h | ⟨b', off', hA, hb, hc⟩
  · left; rw [h]; simp
  · refine .inr ⟨b', off', hA, hb, fun i x hx j hj => ?_⟩
    rw [List.getElem?_take] at hx
    split at hx
    · exact hc i x hx j hj
    · cases hx
theorem add_zeroS (a : Addr) : a.add 0 = a := by unfold Addr.add; simp
theorem slice_take {P : Program} {t : TypeId} {k n cp h : Nat} {A : Option Addr} (ht : P.underlying t = some (.slice (P.elem t))) (hsz : ∀ W, (sizeOf (P.elem t)).run P W = .ok k W) (hh : h ≤ cp) :
    ∀ W, (Instr.sliceAt t (.slice A n cp) none (some (.int .i64 h)) none).run P W = .ok (.slice A h cp) W := by
  intro W
  rw [run_sliceAt_slice W t _ _ _ _ ht, run_slice_h W t A n cp ht .i64 h (by omega) (by omega), hsz]
  have e : A.map (·.add (0 * k)) = A := by cases A <;> simp [add_zeroS]
  simp only [Result.andThen, sliced, Int.toNat_natCast, Nat.sub_zero]
  rw [e]; simp
theorem slice_drop {α : Type} {P : Program} {t : TypeId} {k n cp h : Nat} {c : α → Nat → Value} {A : Option Addr} {xs : List α} (ht : P.underlying t = some (.slice (P.elem t))) (hsz : ∀ W, (sizeOf (P.elem t)).run P W = .ok k W) (hn : xs.length = n) (hh : h ≤ n) (hc : n ≤ cp) :
    ∃ A2, (∀ (w : World) (B : Nat), Reads k c w B A xs → Reads k c w B A2 (xs.drop h)) ∧ ∀ W, (Instr.sliceAt t (.slice A n cp) (some (.int .i64 h)) none none).run P W = .ok (.slice A2 (n - h) (cp - h)) W := by
  refine ⟨if cp = h then A else A.map (·.add (h * k)), fun w B hR => ?_, fun W => ?_⟩
  · by_cases hx : xs.drop h = []
    · rw [hx]; exact .inl rfl
    · have hlt : h < xs.length := by
        rcases Nat.lt_or_ge h xs.length with h1 | h1
        · exact h1
        · exact absurd (List.drop_eq_nil_of_le h1) hx
      rw [if_neg (by omega)]
      have hR' := hR
      rcases hR with h | ⟨b, off, rfl, hb, hcc⟩
      · rw [h] at hx; simp at hx
      · have := hR'.dropS h
        have e : (⟨b, off, none⟩ : Addr).add (h * k) = ⟨b, off + h * k, none⟩ := by
          unfold Addr.add
          split
          · rename_i h0; simp [h0]
          · rfl
        simp only [Option.map_some, e]
        exact this
  · rw [run_sliceAt_slice W t _ _ _ _ ht, run_slice_l W t A n cp ht .i64 h (by omega) (by omega), hsz]
    simp only [Result.andThen, sliced, Int.toNat_natCast]
end Go.Proofs.YtdfgdeccejcpfaaDoor
