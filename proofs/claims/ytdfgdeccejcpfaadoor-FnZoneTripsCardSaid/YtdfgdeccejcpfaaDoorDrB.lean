/- The reader of a code: opening, odd ones. -/
import Derived.Test.YtdfgdeccejcpfaaDoorDrA
namespace Go.Proofs.YtdfgdeccejcpfaaDoor
open Go.RowKit Go.Deep
set_option linter.unusedSimpArgs false
set_option linter.unusedVariables false

def OddP (T : TypeId) (g : Nat) (P : Int) (w : World) (e : Ending) (w' : World) : Prop := ∃ b : Bool, e = .returned (.bool b) ∧ RdOk T w' g (P + 1) ∧ Chg g w w'
theorem odd_any (g : Nat) (P n : Int) (w : World) (hr : RdOk 83 w g P) (hP : P ≤ 1000000) (hn : n ≤ 1000000) (hn0 : 0 ≤ n) :
    Calls Tryd.prog 60 #[.pointer (some ⟨g, 0, none⟩), .int .i64 n] w (OddP 83 g P w) := by
  have HR := Lib.hid hr; clear hr
  by_cases h : 0 < n
  · go_enter Tryd.func60, Tryd.ntmps60
    go_wp2_with fail; ((with_reducible refine (pick_any g (P) n _ (HR.out) (by omega) (by omega)).mono ?_); rintro e w1 ⟨v, rfl, h0v, h1v, hr_w1, hc_w1⟩); have hz_w1 := hc_w1.size; (try simp only [World.size_alloc, World.size_setCell, World.size_drew] at hz_w1); have HR_w1 := Lib.hid hr_w1; have HC_w1 := Lib.hid hc_w1; clear hr_w1 hc_w1
    go_wp2_with fail
    go_ret
    exact ⟨_, rfl, HR_w1.out, HC_w1.out⟩
  · have h' : n ≤ 0 := by omega
    go_enter Tryd.func60, Tryd.ntmps60
    go_wp2_with fail
    go_ret
    exact ⟨_, rfl, HR.out.more (by omega), Chg.refl _ _⟩

def OpenP (T : TypeId) (w : World) (e : Ending) (w' : World) : Prop := ∃ g : Nat, e = .returned (.pointer (some ⟨g, 0, none⟩)) ∧ w.heap.size ≤ g ∧ RdOk T w' g 0 ∧ Below w.heap.size w w'
theorem l20Open_any (A : Option Addr) (c : Nat) (bs : List Int) (w : World) (hR : Reads 1 byteC w w.heap.size A bs) (hb : ∀ x ∈ bs, U8 x) (hl : bs.length ≤ 1048576) (hc : bs.length ≤ c) (hcm : c ≤ 9223372036854775807) :
    Calls Tryd.prog 30 #[.slice A bs.length c] w (OpenP 83 w) := by
  have HR := Lib.hid hR; clear hR
  have HB := Lib.hid hb; clear hb
  by_cases h2 : bs.length ≤ 2000
  · have hd : ¬ (2000 : Int) < bs.length := by omega
    go_enter Tryd.func30, Tryd.ntmps30
    go_wp2_with fail
    go_ret
    exact ⟨w.heap.size, rfl, Nat.le_refl _, ⟨A, c, 0, bs, Bk.new _ _ _, Int.le_refl _, Int.le_refl _, h2, HB.out, HR.out.below (Below.alloc (Below.refl w.heap.size w) (Nat.le_refl _) _) (Nat.le_refl _)⟩, Below.alloc (Below.refl _ _) (Nat.le_refl _) _⟩
  · have hd : (2000 : Int) < bs.length := by omega
    have hR2 : Reads 1 byteC w w.heap.size A (bs.take 2000) := by
      rcases HR.out with h | ⟨b, off, hA, hb, hcc⟩
      · rw [h] at h2; simp at h2
      · refine .inr ⟨b, off, hA, hb, fun i x hx j hj => hcc i x ?_ j hj⟩
        rw [List.getElem?_take] at hx
        split at hx
        · exact hx
        · cases hx
    have HR2 := Lib.hid hR2; clear hR2
    have hl2 : (bs.take 2000).length = 2000 := by rw [List.length_take]; omega
    have HL2 := Lib.hid hl2; clear hl2
    have hne : (2000 : Int) ≤ c := by omega
    go_enter Tryd.func30, Tryd.ntmps30
    go_wp2_with fail
    go_ret
    have hl2 := HL2.out
    refine ⟨w.heap.size, rfl, Nat.le_refl _, ⟨A, c, 0, bs.take 2000, by rw [hl2]; exact Bk.new _ _ _, Int.le_refl _, Int.le_refl _, by omega, fun x hx => HB.out x (List.mem_of_mem_take hx), HR2.out.below (Below.alloc (Below.refl w.heap.size w) (Nat.le_refl _) _) (Nat.le_refl _)⟩, Below.alloc (Below.refl _ _) (Nat.le_refl _) _⟩
end Go.Proofs.YtdfgdeccejcpfaaDoor
