/- slices.Clone. -/
import Derived.Test.YtdfgdeccejcpfaaProg
import Derived.Test.YtdfgdeccejcpfaaApp
namespace Go.Proofs.Ytdfgdeccejcpfaa
open Go.RowKit
set_option linter.unusedSimpArgs false
set_option linter.unusedVariables false
set_option maxRecDepth 100000 in
set_option maxHeartbeats 1000000 in
theorem cloneBus_any (A : Option Addr) (c : Nat) (xs : List R2) (w : World) (hR : Reads 2 r2C w w.heap.size A xs) (hl : xs.length ≤ 1048576) :
    Calls Try.prog 59 #[.slice A xs.length c] w (RetS 2 r2C 68 w xs) := by
  have HR := Lib.hid hR
  generalize hn : xs.length = n at hl ⊢
  have HN := Lib.hid hn; clear hn
  rcases A with _ | ad
  · have hx : xs = [] := by
      rcases hR with h | ⟨b, off, hA, _⟩
      · exact h
      · cases hA
    clear hR
    subst hx
    have he : ∀ W : World, (binOp .eql 41 (.slice none n c) (.slice none 0 0)).run Try.prog W = .ok (.bool true) W := fun _ => rfl
    go_enter Try.func59, Try.ntmps59
    go_wp2_with fail
    go_ret
    exact ⟨_, rfl, Res.empty rfl rfl, Below.refl _ _⟩
  · clear hR
    have HA := Lib.hid (Own.lit (k := 2) (c := r2C) (B := w.heap.size) w 68 #[] 0 [] (Nat.le_refl _) rfl (by omega) rfl)
    have HR3 : Hid (Reads 2 r2C (w.alloc (.cells #[] 68)) (w.alloc (.cells #[] 68)).heap.size (some ad) xs) := by
      unfold Hid
      exact (HR.out.below (Below.alloc (Below.refl _ _) (Nat.le_refl _) _) (Nat.le_refl _)).more (by simp)
    have he : ∀ W : World, (binOp .eql 41 (.slice (some ad) n c) (.slice none 0 0)).run Try.prog W = .ok (.bool false) W := fun _ => rfl
    go_enter Try.func59, Try.ntmps59
    go_wp2_with (first
      | (at_builtin
         refine wpList_app (k := 2) (c := r2C) _ rfl _ _ _ rfl 68 (.agg (Array.replicate 2 (.int .i64 0))) 16 Try.underlying41 (by kernel_rfl) rfl (by decide) (by decide) r2C_one _ _ _ rfl HA.out _ _ _ _ rfl HR3.out ?hm ?hlen ?hB ?_
         case hm => exact HN.out.symm
         case hlen => have := HN.out; simp only [List.length_nil]; omega
         case hB => rw [World.size_alloc]; omega
         intro v4 w4 hown4 hg4 hat4))
    go_ret
    refine ⟨_, rfl, hown4.res, ?_⟩
    refine (Below.alloc (Below.refl _ _) (Nat.le_refl _) _).grown hg4 (by rw [World.size_alloc]; omega) (fun k hk => ?_)
    injection hk with hk
    subst hk
    exact Nat.le_refl _
end Go.Proofs.Ytdfgdeccejcpfaa
