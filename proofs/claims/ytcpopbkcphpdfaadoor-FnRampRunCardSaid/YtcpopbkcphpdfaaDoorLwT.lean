/- Hours: what the law says. No program's text is walked here. -/
import Derived.Test.YtcpopbkcphpdfaaDoorLwR
namespace Go.Proofs.YtcpopbkcphpdfaaDoor
open Go.RowKit Go.Deep
set_option linter.unusedSimpArgs false
set_option linter.unusedVariables false

theorem rrun_ok {us : List R4} {rs : List Int} (h0 : 1 ≤ us.length) : ∀ {ls ys : List Int}, RampP us rs ys → RampP us rs (rrun us rs ls ys).1 ∧ ((rrun us rs ls ys).2 = 0 ∨ sumI (rrun us rs ls ys).1 = gI ls ((rrun us rs ls ys).2 - 1)) ∧ ((rrun us rs ls ys).2 = 0 → (rrun us rs ls ys).1 = ys)
  | [], ys, h => ⟨h, .inl rfl, fun _ => rfl⟩
  | l :: ls, ys, h => by
    unfold rrun
    cases hn : rampN us rs ys l with
    | none => exact ⟨h, .inl rfl, fun _ => rfl⟩
    | some zs =>
      simp only
      have hz := next_hour h0 hn
      have hp : RampP us rs zs := ⟨hz.2.2.1, h.2⟩
      obtain ⟨i1, i2, i3⟩ := rrun_ok h0 (ls := ls) hp
      refine ⟨i1, .inr ?_, fun hh => by omega⟩
      rcases i2 with i2 | i2
      · rw [i3 i2, i2]; exact hz.2.2.2.1
      · by_cases hc : (rrun us rs ls zs).2 = 0
        · rw [i3 hc, hc]; exact hz.2.2.2.1
        · rw [i2]
          have e : (rrun us rs ls zs).2 + 1 - 1 = ((rrun us rs ls zs).2 - 1) + 1 := by omega
          rw [e]; simp [gI]
theorem rrunO_t {us : List R4} {rs ys ls : List Int} (h : RampP us rs ys) (h0 : 1 ≤ us.length) (hl : ls.length ≤ 12) : rrunO us rs ys ls = rrun us rs ls ys := by
  unfold rrunO; rw [if_pos ⟨⟨rampB_t.2 h, by omega⟩, hl⟩]
theorem rrunO_f {us : List R4} {rs ys ls : List Int} (h : ¬ (RampP us rs ys ∧ ls.length ≤ 12)) : rrunO us rs ys ls = ([], 0) := by
  unfold rrunO; rw [if_neg (fun hh => h ⟨rampB_t.1 hh.1.1, hh.2⟩)]
/-- The law on hours. -/
theorem hours_law {us : List R4} {rs ys ls : List Int} (h : RampP us rs ys) (h0 : 1 ≤ us.length) (hl : ls.length ≤ 12) (k : Nat) (hk : k ≤ ls.length) :
    ∃ (xs zs : List Int) (n p : Nat), rrunO us rs ys ls = (xs, n) ∧ rrunO us rs ys (ls.take k) = (zs, p) ∧ xs.length = us.length ∧ zs.length = us.length ∧ p ≤ k ∧ n ≤ ls.length ∧ OutsP us xs ∧ (n = 0 ∨ (1 ≤ n ∧ sumI xs = gI ls (n - 1))) ∧
      (p < k → p = n ∧ zs = xs) ∧ (p = k → ∃ q : Nat, q ≤ 12 ∧ rrunO us rs zs (ls.drop k) = (xs, q) ∧ k + q = n) := by
  have hlt : (ls.take k).length = k := by rw [List.length_take]; omega
  have e1 := rrunO_t h h0 hl
  have e2 := rrunO_t (ls := ls.take k) h h0 (by omega)
  have o1 := rrun_ok h0 (ls := ls) h
  have o2 := rrun_ok h0 (ls := ls.take k) h
  have c1 := rrun_cnt (xs := us) (rs := rs) (ls := ls) (ys := ys)
  have c2 := rrun_cnt (xs := us) (rs := rs) (ls := ls.take k) (ys := ys)
  have pp := rrun_parts us rs (ls.take k) (ls.drop k) ys
  rw [List.take_append_drop, hlt] at pp
  refine ⟨(rrun us rs ls ys).1, (rrun us rs (ls.take k) ys).1, (rrun us rs ls ys).2, (rrun us rs (ls.take k) ys).2, e1, e2, o1.1.1.2.1, o2.1.1.2.1, by omega, c1, o1.1.1, ?_, fun hp => ?_, fun hp => ?_⟩
  · rcases o1.2.1 with hh | hh
    · exact .inl hh
    · by_cases hc : (rrun us rs ls ys).2 = 0
      · exact .inl hc
      · exact .inr ⟨by omega, hh⟩
  · rw [pp.1 hp]; exact ⟨rfl, rfl⟩
  · have e3 := pp.2 hp
    refine ⟨(rrun us rs (ls.drop k) (rrun us rs (ls.take k) ys).1).2, ?_, ?_, ?_⟩
    · have := rrun_cnt (xs := us) (rs := rs) (ls := ls.drop k) (ys := (rrun us rs (ls.take k) ys).1)
      rw [List.length_drop] at this; omega
    · rw [rrunO_t o2.1 h0 (by rw [List.length_drop]; omega), e3]
    · rw [e3]
end Go.Proofs.YtcpopbkcphpdfaaDoor
