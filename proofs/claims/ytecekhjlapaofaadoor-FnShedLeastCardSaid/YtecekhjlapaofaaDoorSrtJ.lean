/- slices.Sort of few ints: the call. -/
import Derived.Test.YtecekhjlapaofaaDoorSrtI
namespace Go.Proofs.YtecekhjlapaofaaDoor
open Go.RowKit Go.Deep
set_option linter.unusedSimpArgs false
set_option linter.unusedVariables false
def LenP (w : World) (e : Ending) (w' : World) : Prop := ∃ v : Int, e = .returned (.int .i64 v) ∧ w = w'
theorem len64_any (n : Nat) (hn : n ≤ 12) (w : World) : Calls Tryd.prog 72 #[.int .u64 n] w (LenP w) := by
  have h1 : ¬ (4294967296 : Int) ≤ (n : Int) := by omega
  have h2 : ¬ (65536 : Int) ≤ (n : Int) := by omega
  have h3 : ¬ (256 : Int) ≤ (n : Int) := by omega
  have h4 : (n : Int) ≤ 255 := by omega
  have h5 : (0 : Int) ≤ (n : Int) := by omega
  go_enter Tryd.func72, Tryd.ntmps72
  go_wp2_with fail
  go_ret
  exact ⟨_, rfl, rfl⟩
theorem len_any (n : Nat) (hn : n ≤ 12) (w : World) : Calls Tryd.prog 50 #[.int .u64 n] w (LenP w) := by
  have H := Lib.hid (len64_any n hn w)
  go_enter Tryd.func50, Tryd.ntmps50
  go_wp2_with (go_at_call 72; refine H.out.mono ?_; rintro e w' ⟨v, rfl, rfl⟩)
  go_ret
  exact ⟨_, rfl, rfl⟩
def SortP (T : TypeId) (zs : List Int) (m g : Nat) (f : Nat → Value) (w : World) (e : Ending) (w' : World) : Prop := e = .returned (.tuple #[]) ∧ Mk g (g + 1) w w' ∧ ∃ ds : List Int, ds.Perm zs ∧ ds.Pairwise (· ≤ ·) ∧ w'.rowIs g T m (frontC ds f)
theorem pdq_any (zs : List Int) (m g c n : Nat) (v : Int) (f : Nat → Value) (w : World) (hn : zs.length = n) (hrow : w.rowIs g 3 m (frontC zs f)) (hm : n ≤ m) (h8 : n ≤ 12) :
    Calls Tryd.prog 49 #[.slice (some ⟨g, 0, none⟩) n c, .int .i64 0, .int .i64 n, .int .i64 v] w (SortP 3 zs m g f w) := by
  have H := Lib.hid (insOrd_any zs m g c n f w hn hrow hm h8); clear hrow hn
  have h1 : (n : Int) ≤ 12 := by omega
  have h2 : IntKind.i64.wrap (n : Int) = (n : Int) := IntWalk.i64_in _ (by omega)
  go_enter Tryd.func49, Tryd.ntmps49
  go_wp2_with fail
  go_loopw [1, 2] (fun t u wr => t = .int .i64 0 ∧ u = .int .i64 n ∧ Hid (wr = w)) (fun _ _ _ => 0)
  case atStart => exact ⟨rfl, rfl, rfl⟩
  case round =>
    obtain ⟨rfl, rfl, HW⟩ := hrel
    have hw := HW.out
    subst hw
    clear HW
    go_wp2_with fail
    refine H.out.mono ?_
    rintro e w1 ⟨rfl, hm1, hr1⟩
    have HM := Lib.hid hm1; have HR1 := Lib.hid hr1; clear hm1 hr1
    go_wp2_with fail
    go_end0
    exact ⟨rfl, HM.out, HR1.out⟩
theorem sort_any (zs : List Int) (m g c n : Nat) (f : Nat → Value) (w : World) (hn : zs.length = n) (hrow : w.rowIs g 3 m (frontC zs f)) (hm : n ≤ m) (h8 : n ≤ 12) :
    Calls Tryd.prog 37 #[.slice (some ⟨g, 0, none⟩) n c] w (SortP 3 zs m g f w) := by
  have H := Lib.hid (fun v => pdq_any zs m g c n v f w hn hrow hm h8); clear hrow hn
  have HL := Lib.hid (len_any n h8 w)
  have h2 : IntKind.u64.wrap (n : Int) = (n : Int) := by simp [IntKind.wrap, IntKind.bits, IntKind.signed]; omega
  go_enter Tryd.func37, Tryd.ntmps37
  go_wp2_with fail
  refine HL.out.mono ?_
  rintro e w1 ⟨v, rfl, rfl⟩
  go_wp2_with fail
  refine (H.out v).mono ?_
  rintro e w1 ⟨rfl, hm1, hr1⟩
  have HM := Lib.hid hm1; have HR1 := Lib.hid hr1; clear hm1 hr1
  go_wp2_with fail
  go_end0
  exact ⟨rfl, HM.out, HR1.out⟩
end Go.Proofs.YtecekhjlapaofaaDoor
