/- Relays: plain laws of a chain. -/
import Derived.Test.YtkndokcpnlbipaaDoorRlP
import Derived.Test.YtkndokcpnlbipaaDoorGrA
namespace Go.Proofs.YtkndokcpnlbipaaDoor
open Go.RowKit
set_option linter.unusedSimpArgs false
set_option linter.unusedVariables false

def ChainP (ps : List Int) (fp fd m lo hi : Int) (acc : List R2) : Prop :=
  acc.length = ps.length + 1 ∧ acc.getD ps.length ⟨0, 0⟩ = ⟨fp, fd⟩ ∧ ∀ k, k < ps.length → (acc.getD k ⟨0, 0⟩).a = ps.getD k 0 ∧ GradeP (acc.getD k ⟨0, 0⟩).a (acc.getD k ⟨0, 0⟩).b (acc.getD (k + 1) ⟨0, 0⟩).a (acc.getD (k + 1) ⟨0, 0⟩).b m lo hi
theorem gch_chain {fp fd m lo hi : Int} {ps : List Int} {acc : List R2} (h : gch fp fd m lo hi ps = some acc) : ChainP ps fp fd m lo hi acc := by
  induction ps generalizing acc with
  | nil => simp [gch] at h; subst h; exact ⟨rfl, rfl, fun k hk => by simp at hk⟩
  | cons p ps ih =>
    simp only [gch] at h
    split at h
    · rename_i x acc' hg
      split at h
      · cases h
      · rename_i hd
        injection h with h; subst h
        obtain ⟨h1, h2, h3⟩ := ih hg
        refine ⟨by simp at h1 ⊢; omega, ?_, fun k hk => ?_⟩
        · simpa using h2
        · cases k with
          | zero =>
            refine ⟨rfl, ?_⟩
            rcases leastDial_bd p x.a x.b m lo hi with hb | ⟨_, _, hb⟩
            · omega
            · exact gradeB_t.1 hb
          | succ k =>
            have := h3 k (by simp at hk; omega)
            simpa using this
    · cases h
section
variable {ps : List Int} {fp fd m lo hi : Int} {acc : List R2}
theorem ChainP.step (h : ChainP ps fp fd m lo hi acc) {k : Nat} (hk : k < ps.length) {c : Int} (h1 : lo ≤ c) (h2 : c ≤ hi) (ht : 0 ≤ srt (acc.getD k ⟨0, 0⟩).a (acc.getD k ⟨0, 0⟩).b c) :
    0 ≤ srt (acc.getD (k + 1) ⟨0, 0⟩).a (acc.getD (k + 1) ⟨0, 0⟩).b c ∧ srt (acc.getD (k + 1) ⟨0, 0⟩).a (acc.getD (k + 1) ⟨0, 0⟩).b c + m ≤ srt (acc.getD k ⟨0, 0⟩).a (acc.getD k ⟨0, 0⟩).b c := by
  obtain ⟨_, g1, g2, g3, g4, g5, g6⟩ := h.2.2 k hk
  generalize acc.getD k ⟨0, 0⟩ = x at *
  generalize acc.getD (k + 1) ⟨0, 0⟩ = y at *
  rcases srt_cases (p := x.a) (d := x.b) (c := c) with ⟨a1, a2, a3, a4, a5, a6⟩ | ⟨_, a2⟩
  · have h3 := g6 c h1 h2 a2
    have h4 := srt_in g2 (c := c) a3
    have h5 := rtime_pos g2 (c := c) (by omega)
    omega
  · omega
theorem ChainP.last (h : ChainP ps fp fd m lo hi acc) {c : Int} (h1 : lo ≤ c) (h2 : c ≤ hi) (j k : Nat) (hk : k + j = ps.length) (ht : 0 ≤ srt (acc.getD k ⟨0, 0⟩).a (acc.getD k ⟨0, 0⟩).b c) :
    0 ≤ srt (acc.getD ps.length ⟨0, 0⟩).a (acc.getD ps.length ⟨0, 0⟩).b c ∧ srt (acc.getD ps.length ⟨0, 0⟩).a (acc.getD ps.length ⟨0, 0⟩).b c + j ≤ srt (acc.getD k ⟨0, 0⟩).a (acc.getD k ⟨0, 0⟩).b c := by
  induction j generalizing k with
  | zero => obtain rfl : k = ps.length := by omega
            exact ⟨ht, by simp⟩
  | succ j ih =>
    have hs := h.step (k := k) (by omega) h1 h2 ht
    have hm := (h.2.2 k (by omega)).2.2.2.1
    have := ih (k + 1) (by omega) hs.1
    omega
theorem getD_get {xs : List R2} {i : Nat} (h : i < xs.length) : xs[i] = xs.getD i ⟨0, 0⟩ := by rw [List.getD_eq_getElem?_getD, List.getElem?_eq_getElem h]; rfl
theorem ChainP.trip (h : ChainP ps fp fd m lo hi acc) (hp : 0 < ps.length) (hl : ps.length < 10) {c : Int} (h1 : lo ≤ c) (h2 : c ≤ hi) : TripIs acc c (-1) ∨ TripIs acc c ps.length := by
  have hlen := h.1
  have hgood : TripG acc := by
    refine ⟨by omega, fun x hx => ?_⟩
    obtain ⟨i, hi, rfl⟩ := List.mem_iff_getElem.1 hx
    rw [getD_get hi]
    by_cases hi2 : i < ps.length
    · exact (h.2.2 i hi2).2.1
    · have := (h.2.2 (ps.length - 1) (by omega)).2.2.1
      rwa [show ps.length - 1 + 1 = i by omega] at this
  by_cases hn : 0 ≤ srt (acc.getD ps.length ⟨0, 0⟩).a (acc.getD ps.length ⟨0, 0⟩).b c
  · right
    refine .inr ⟨hgood, ps.length, rfl, by omega, ?_, fun j hj ht => ?_⟩
    · rw [getD_get]; exact hn
    · rw [getD_get hj] at ht ⊢
      rw [getD_get (by omega : ps.length < acc.length)]
      have := h.last h1 h2 (ps.length - j) j (by omega) ht
      exact ⟨by omega, fun hh => by omega⟩
  · left
    refine .inl ⟨rfl, .inr fun j hj => ?_⟩
    rw [getD_get hj]
    rcases Int.lt_or_le (srt (acc.getD j ⟨0, 0⟩).a (acc.getD j ⟨0, 0⟩).b c) 0 with h0 | h0
    · exact h0
    · exact absurd (h.last h1 h2 (ps.length - j) j (by omega) h0).1 hn
end
end Go.Proofs.YtkndokcpnlbipaaDoor
