/- Drawing ranges of currents. -/
import Derived.Test.YtkndokcpnlbipaaDoorRlD
import Derived.Test.YtkndokcpnlbipaaDoorPkS
import Derived.Deep.RegionHeld3
import Derived.Deep.DeepCutAuto
namespace Go.Proofs.YtkndokcpnlbipaaDoor
open Go.RowKit Go.Deep
set_option linter.unusedSimpArgs false
set_option linter.unusedVariables false
def DrawnRg (g : Nat) (P : Int) (w : World) (e : Ending) (w' : World) : Prop := ∃ m lo hi : Int, e = .returned (.tuple #[.int .i64 m, .int .i64 lo, .int .i64 hi]) ∧ 0 ≤ m ∧ m ≤ 12 ∧ -250 ≤ lo ∧ lo ≤ 400 ∧ -1 ≤ hi ∧ hi ≤ 401 ∧ RdOk 64 w' g (P + 10) ∧ Chg g w w'
theorem keepNew {W : World} {b : Nat} (h : W.heap.size = b) (cs : Array Value) (T : TypeId) (q : Nat) : (W.alloc (.cells cs T)).cell? ⟨b, q, none⟩ = cs[q]? := by subst h; exact (Bk.new W T cs).cell q
def selR (a b c : Int) (q : Nat) : Int := if q = 0 then a else if q = 1 then b else c
set_option maxRecDepth 100000 in
set_option maxHeartbeats 4000000 in
theorem l20Range_any (g : Nat) (P : Int) (w : World) (hr : RdOk 64 w g P) (hP : P ≤ 900000) :
    Calls Tryd.prog 41 #[.pointer (some ⟨g, 0, none⟩)] w (DrawnRg g P w) := by
  have hgl := hr.lt
  have HR := Lib.hid hr; clear hr
  go_enter Tryd.func41, Tryd.ntmps41
  go_wp2_with fail; ((with_reducible refine (pick_any g (P) 200 _ (HR.out) (by omega) (by omega)).mono ?_); rintro e w1 ⟨v1, rfl, h0v1, h1v1, hr_w1, hc_w1⟩); have hz_w1 := hc_w1.size; (try simp only [World.size_alloc, World.size_setCell, World.size_drew] at hz_w1); have HR_w1 := Lib.hid hr_w1; have HC_w1 := Lib.hid hc_w1; clear hr_w1 hc_w1
  go_wp2_with fail; ((with_reducible refine (pick_any g (P + 1) 120 _ (HR_w1.out) (by omega) (by omega)).mono ?_); rintro e w2 ⟨v2, rfl, h0v2, h1v2, hr_w2, hc_w2⟩); have hz_w2 := hc_w2.size; (try simp only [World.size_alloc, World.size_setCell, World.size_drew] at hz_w2); have HR_w2 := Lib.hid hr_w2; have HC_w2 := Lib.hid hc_w2; clear hr_w2 hc_w2
  have hgz2 := HR_w2.out.lt
  have hodd := odd_any g (P + 1 + 1) 12 w2 HR_w2.out (by omega) (by omega) (by omega)
  have HODD := Lib.hid hodd; clear hodd
  go_wp2_with fail
  refine HODD.out.mono ?_
  clear HODD
  rintro e w3 ⟨bo, rfl, hr3, hc3⟩
  have HR3 := Lib.hid hr3
  have HC3 : Hid (Chg g w w3) := (HC_w1.out.trans HC_w2.out).trans hc3
  have hgz3 := HR3.out.lt
  clear hr3 hc3 HC_w1 HC_w2 HR_w1 HR_w2 hz_w1 hz_w2
  cases bo with
  | false =>
    go_wp2_with fail; ((with_reducible refine (pick_any g (P + 1 + 1 + 1) 12 _ (HR3.out) (by omega) (by omega)).mono ?_); rintro e w4 ⟨v3, rfl, h0v3, h1v3, hr_w4, hc_w4⟩); have hz_w4 := hc_w4.size; (try simp only [World.size_alloc, World.size_setCell, World.size_drew] at hz_w4); have HR_w4 := Lib.hid hr_w4; have HC_w4 := Lib.hid hc_w4; clear hr_w4 hc_w4
    go_wp2_with fail
    refine bodyPost_ret (by simp [results, Tryd.results41, go_sem]; try rfl) rfl ?_
    exact ⟨_, _, _, rfl, by omega, by omega, by omega, by omega, by omega, by omega, HR_w4.out.more (by omega), HC3.out.trans HC_w4.out⟩
  | true =>
    have hsel : ∀ q : Nat, q < 3 → (#[Value.int .i64 (v1 + v2), Value.int .i64 401, Value.int .i64 (v1 - 1)] : Array Value)[q]? = some (.int .i64 (selR (v1 + v2) 401 (v1 - 1) q)) := by
      intro q hq
      have : q = 0 ∨ q = 1 ∨ q = 2 := by omega
      rcases this with rfl | rfl | rfl <;> rfl
    have e1 : IntKind.i64.wrap (v1 - 1) = v1 - 1 := IntWalk.i64_in _ (by omega)
    go_wp2_with fail
    go_region_with (first
        | (go_at_call 32; (with_reducible refine (pick_same g (P + 1 + 1 + 1) 2 _ (by first | (with_reducible exact HR3.out.below (Below.drew (Below.refl _ _))) | (with_reducible exact (HR3.out.alloc _).below (Below.drew (Below.refl _ _)))) (by omega) (by omega)).mono ?_); rintro e wa ⟨⟨u1, rfl, h0u1, h1u1, hra, hca⟩, zA⟩; have cA := fun h => Chg.cell hca (b := w3.heap.size) h (by omega); (try simp only [World.size_alloc, World.size_drew] at zA))
        | (go_at_call 32; (with_reducible refine (pick_same g (P + 1 + 1 + 1 + 1) 2 _ (by first | (with_reducible exact hra) | (with_reducible exact hra.alloc _)) (by omega) (by omega)).mono ?_); rintro e wb ⟨⟨u2, rfl, h0u2, h1u2, hrb, hcb⟩, zB⟩; have cB := fun h => Chg.cell hcb (b := w3.heap.size) h (by omega); (try simp only [World.size_alloc, World.size_drew] at zB))
        | (go_at_call 32; (with_reducible refine (pick_same g (P + 1 + 1 + 1 + 1 + 1) 3 _ (by first | (with_reducible exact hrb) | (with_reducible exact hrb.alloc _)) (by omega) (by omega)).mono ?_); rintro e wd ⟨⟨u3, rfl, h0u3, h1u3, hrd, hcd⟩, zD⟩; have cD := fun h => Chg.cell hcd (b := w3.heap.size) h (by omega); (try simp only [World.size_alloc, World.size_drew] at zD); (obtain ⟨q, hq⟩ : ∃ q : Nat, u3 = (q : Int) := ⟨u3.toNat, (Int.toNat_of_nonneg h0u3).symm⟩); subst hq; have hq3 : q < 3 := (by omega); have hq4 : (0 : Int) ≤ (q : Int) := (by omega); have hq5 : (q : Int) < 3 := (by omega); have hq6 := hsel q hq3))
    all_goals
      have f1 : IntKind.i64.wrap (u1 * 5) = u1 * 5 := IntWalk.i64_in _ (by omega)
      have f2 : IntKind.i64.wrap (250 * u2) = 250 * u2 := IntWalk.i64_in _ (by omega)
      have f3 : IntKind.i64.wrap (v1 - 250 * u2) = v1 - 250 * u2 := IntWalk.i64_in _ (by omega)
      have hsb : -1 ≤ selR (v1 + v2) 401 (v1 - 1) q ∧ selR (v1 + v2) 401 (v1 - 1) q ≤ 401 := by unfold selR; split <;> (try split) <;> omega
      obtain ⟨hsb0, hsb1⟩ := hsb
      go_wp2_with fail
      refine bodyPost_ret (by simp [results, Tryd.results41, go_sem, f1, f2, f3]; try rfl) rfl ?_
      refine ⟨u1 * 5, v1 - 250 * u2, selR (v1 + v2) 401 (v1 - 1) q, by first | rfl | (simp [f1, f2, f3]; rcases (by omega : q = 0 ∨ q = 1 ∨ q = 2) with rfl | rfl | rfl <;> rfl), by omega, by omega, by omega, by omega, by omega, by omega, ?_, ?_⟩
      · first | exact RdOk.more (P := P + 1 + 1 + 1 + 1 + 1 + 1) hrd (by omega) | exact RdOk.more (P := P + 1 + 1 + 1 + 1 + 1 + 1) (hrd.alloc _) (by omega)
      · first
          | exact (((HC3.out.alloc _).trans hca.undrew).trans hcb).trans hcd
          | exact (((HC3.out.trans hca.undrew).alloc _).trans hcb).trans hcd
          | exact (((HC3.out.trans hca.undrew).trans hcb).alloc _).trans hcd
          | exact ((((HC3.out.trans hca.undrew).trans hcb).trans hcd).alloc _)
end Go.Proofs.YtkndokcpnlbipaaDoor
