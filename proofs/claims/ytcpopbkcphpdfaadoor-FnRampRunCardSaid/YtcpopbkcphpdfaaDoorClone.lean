/- slices.Clone. -/
import Derived.Test.YtcpopbkcphpdfaaDoorProg
import Derived.Test.YtcpopbkcphpdfaaDoorApp
namespace Go.Proofs.YtcpopbkcphpdfaaDoor
open Go.RowKit
set_option linter.unusedSimpArgs false
set_option linter.unusedVariables false
set_option maxRecDepth 100000 in
set_option maxHeartbeats 1000000 in
theorem cloneUnit_any (A : Option Addr) (c : Nat) (xs : List R4) (w : World) (hR : Reads 4 r4C w w.heap.size A xs) (hl : xs.length ≤ 1048576) :
    Calls Tryd.prog 67 #[.slice A xs.length c] w (RetS 4 r4C 27 w xs) := by
  have HR := Lib.hid hR
  generalize hn : xs.length = n at hl ⊢
  have HN := Lib.hid hn; clear hn
  rcases A with _ | ad
  · have hx : xs = [] := by
      rcases hR with h | ⟨b, off, hA, _⟩
      · exact h
      · cases hA
    clear hR
    subst hx
    have he : ∀ W : World, (binOp .eql 23 (.slice none n c) (.slice none 0 0)).run Tryd.prog W = .ok (.bool true) W := fun _ => rfl
    go_enter Tryd.func67, Tryd.ntmps67
    go_wp2_with fail
    go_ret
    exact ⟨_, rfl, Res.empty rfl rfl, Below.refl _ _⟩
  · clear hR
    have HA := Lib.hid (Own.lit (k := 4) (c := r4C) (B := w.heap.size) w 27 #[] 0 [] (Nat.le_refl _) rfl (by omega) rfl)
    have HR3 : Hid (Reads 4 r4C (w.alloc (.cells #[] 27)) (w.alloc (.cells #[] 27)).heap.size (some ad) xs) := by
      unfold Hid
      exact (HR.out.below (Below.alloc (Below.refl _ _) (Nat.le_refl _) _) (Nat.le_refl _)).more (by simp)
    have he : ∀ W : World, (binOp .eql 23 (.slice (some ad) n c) (.slice none 0 0)).run Tryd.prog W = .ok (.bool false) W := fun _ => rfl
    go_enter Tryd.func67, Tryd.ntmps67
    go_wp2_with (first
      | (at_builtin
         refine wpList_app (k := 4) (c := r4C) _ rfl _ _ _ rfl 27 (.agg (Array.replicate 4 (.int .i64 0))) 32 Tryd.underlying23 (by kernel_rfl) rfl (by decide) (by decide) r4C_one _ _ _ rfl HA.out _ _ _ _ rfl HR3.out ?hm ?hlen ?hB ?_
         case hm => exact HN.out.symm
         case hlen => have := HN.out; simp only [List.length_nil]; omega
         case hB => rw [World.size_alloc]; omega
         intro v4 w4 hown4 hg4 hat4))
    go_ret
    refine ⟨_, rfl, hown4.res, ?_⟩
    refine (Below.alloc (Below.refl _ _) (Nat.le_refl _) _).grown hg4 (by rw [World.size_alloc]; omega) (fun k hk => ?_)
    injection hk with hk
    subst hk
    exact Nat.le_refl _
set_option maxRecDepth 100000 in
set_option maxHeartbeats 1000000 in
theorem cloneInt_any (A : Option Addr) (c : Nat) (xs : List Int) (w : World) (hR : Reads 1 intC w w.heap.size A xs) (hl : xs.length ≤ 1048576) :
    Calls Tryd.prog 78 #[.slice A xs.length c] w (RetS 1 intC 3 w xs) := by
  have HR := Lib.hid hR
  generalize hn : xs.length = n at hl ⊢
  have HN := Lib.hid hn; clear hn
  rcases A with _ | ad
  · have hx : xs = [] := by
      rcases hR with h | ⟨b, off, hA, _⟩
      · exact h
      · cases hA
    clear hR
    subst hx
    have he : ∀ W : World, (binOp .eql 30 (.slice none n c) (.slice none 0 0)).run Tryd.prog W = .ok (.bool true) W := fun _ => rfl
    go_enter Tryd.func78, Tryd.ntmps78
    go_wp2_with fail
    go_ret
    exact ⟨_, rfl, Res.empty rfl rfl, Below.refl _ _⟩
  · clear hR
    have HA := Lib.hid (Own.lit (k := 1) (c := intC) (B := w.heap.size) w 3 #[] 0 [] (Nat.le_refl _) rfl (by omega) rfl)
    have HR3 : Hid (Reads 1 intC (w.alloc (.cells #[] 3)) (w.alloc (.cells #[] 3)).heap.size (some ad) xs) := by
      unfold Hid
      exact (HR.out.below (Below.alloc (Below.refl _ _) (Nat.le_refl _) _) (Nat.le_refl _)).more (by simp)
    have he : ∀ W : World, (binOp .eql 30 (.slice (some ad) n c) (.slice none 0 0)).run Tryd.prog W = .ok (.bool false) W := fun _ => rfl
    go_enter Tryd.func78, Tryd.ntmps78
    go_wp2_with (first
      | (at_builtin
         refine wpList_app (k := 1) (c := intC) _ rfl _ _ _ rfl 3 (.int .i64 0) 8 Tryd.underlying30 (by kernel_rfl) rfl (by decide) (by decide) intC_one _ _ _ rfl HA.out _ _ _ _ rfl HR3.out ?hm ?hlen ?hB ?_
         case hm => exact HN.out.symm
         case hlen => have := HN.out; simp only [List.length_nil]; omega
         case hB => rw [World.size_alloc]; omega
         intro v4 w4 hown4 hg4 hat4))
    go_ret
    refine ⟨_, rfl, hown4.res, ?_⟩
    refine (Below.alloc (Below.refl _ _) (Nat.le_refl _) _).grown hg4 (by rw [World.size_alloc]; omega) (fun k hk => ?_)
    injection hk with hk
    subst hk
    exact Nat.le_refl _
end Go.Proofs.YtcpopbkcphpdfaaDoor
