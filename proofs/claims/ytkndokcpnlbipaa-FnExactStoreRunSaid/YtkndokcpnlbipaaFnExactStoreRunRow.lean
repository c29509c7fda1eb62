/- For every input, laws.FnExactStoreRun returns true, and its arguments read afterwards as before. No condition. -/
import Derived.Test.YtkndokcpnlbipaaRows
import Derived.Test.YtkndokcpnlbipaaBatL
namespace Go.Proofs.Ytkndokcpnlbipaa.fnExactStoreRun
open Go.ChangeShapes Go.WideShapes Go.ChangeAt Go.RowKit Go.Deep
set_option linter.unusedVariables false

theorem own : ownKnob Try.prog.godebug = none := by kernel_rfl
theorem laidOut : laidOutB Try.prog = true := by kernel_rfl
set_option maxRecDepth 100000 in
theorem lifted (os : Os) (started : os.Started) (H : Type) (enc : TypeId × Value → H) :
    ReturnsInHanded {} Try.checked os 5 .any (Rows.fnExactStoreRunSpec.pre6 enc Try.prog Try.f5 Rows.fnExactStoreRunRow.domain false) (Rows.fnExactStoreRunSpec.post enc Try.prog Try.f5 false true false false) := by
  refine returnsInHanded_of_change (C := Try.checked) own started (by kernel_rfl) Try.func5
    (ChangeSpec.witness6 (enc := enc) (C := Try.checked) false ⟨#[], #[.agg #[.int .i64 0, .int .i64 0, .int .i64 0], .slice none 0 0], []⟩ 8 (by kernel_rfl) (by kernel_rfl) (by kernel_rfl) (by kernel_rfl)) ?_
  intro W base args ds gs before hval0 hW hcnd _
  have hval : ∀ (j : Nat) t v, Try.f5.params[j]? = some t → args[j]? = some v → Value.okWide Try.prog W .any base t v := hval0
  have hW' := hW
  obtain ⟨p, q, hA0, hV, rfl, hfz, hnd⟩ := hW
  have hA : DataW.TrodAll enc Try.prog W 0 (fun _ => true) true Try.f5.params.toList args.toList ds p := hA0
  rw [Try.params5] at hA hval
  obtain ⟨v0, vs0, d0, ds0, p0, q0, hargs, rfl, rfl, h0, r0⟩ := trodAll_cons hA
  obtain ⟨v1, vs1, d1, ds1, p1, q1, rfl, rfl, rfl, h1, r1⟩ := trodAll_cons r0
  obtain ⟨rfl, rfl, rfl⟩ := trodAll_nil r1
  obtain rfl : args = #[v0, v1] := by cases args; simp_all
  obtain ⟨rfl, rfl⟩ := trodVars_none hV
  have k0 := h0
  have lt0 : ∀ x ∈ p0, x.block < W.heap.size := by obtain ⟨m, hm⟩ := k0; exact DataW.trod_lt m _ _ _ hm
  obtain ⟨zs0, hv0, hl0, hz0⟩ := open_ints_agg Try.underlying23 (by kernel_rfl) (by kernel_rfl) (by intro i f h; rcases i with _ | _ | _ | i <;> simp at h <;> subst h <;> exact Try.underlying3) (hval 0 23 v0 rfl rfl) h0
  obtain ⟨z0_0, z0_1, z0_2, rfl⟩ : ∃ z0_0 z0_1 z0_2 : Int, zs0 = [z0_0, z0_1, z0_2] := by
    rcases zs0 with _ | ⟨y0, _ | ⟨y1, _ | ⟨y2, _ | ⟨y3, zs⟩⟩⟩⟩
    · simp at hl0
    · simp at hl0
    · simp at hl0
    · exact ⟨_, _, _, rfl⟩
    · simp at hl0
  simp only [List.map_cons, List.map_nil] at hv0
  subst hv0
  have k1 := h1
  have lt1 : ∀ x ∈ p1, x.block < W.heap.size := by obtain ⟨m, hm⟩ := k1; exact DataW.trod_lt m _ _ _ hm
  obtain ⟨A1, n1, c1, rfl⟩ := okWide_slice Try.underlying34 (hval 1 34 v1 rfl rfl)
  obtain ⟨xs1, e1, g1, l1, m1, rd1⟩ := open_row _ Try.underlying34 (by kernel_rfl) (by decide) (good_int Try.underlying3) h1
  clear hA0 hval0
  refine (fnExactStoreRun_any z0_0 z0_1 z0_2 A1 n1 c1 xs1 W (hz0 z0_0 (by simp)) (hz0 z0_1 (by simp)) (hz0 z0_2 (by simp)) e1 g1 l1 m1 rd1).mono fun e W' ⟨he, bel⟩ => ?_
  subst he
  exact ⟨_, rfl, _, _, _, [], _, [], hW', trodAll_mk1 (shut_bool Try.underlying4 _), (trodAll_cons_mk (Below.trod laidOut (by kernel_rfl) (of_decide_eq_true (by kernel_rfl)) k0 bel lt0) (trodAll_cons_mk (Below.trod laidOut (by kernel_rfl) (of_decide_eq_true (by kernel_rfl)) k1 bel lt1) trodAll_mk0)), rfl, bel.frame _, fun h => by cases h⟩

theorem proved : Rows.FnExactStoreRunSaid :=
  OpenClaim.holds_of_wide 5 Try.f5 rfl rfl rfl rfl rfl rfl rfl ⟨rfl, rfl, rfl, rfl, rfl⟩ rfl rfl rfl rfl rfl (by kernel_rfl) Try.func5 (by kernel_rfl)
    (of_decide_eq_true (by kernel_rfl)) (by unfold Func.isWrapper; first | (rw [if_pos (by decide +kernel)]; kernel_rfl) | (rw [if_neg (by decide +kernel)]; exact ⟨rfl, rfl⟩))
    (fun os started H enc _ => lifted os started H enc)
#print axioms proved
end Go.Proofs.Ytkndokcpnlbipaa.fnExactStoreRun
