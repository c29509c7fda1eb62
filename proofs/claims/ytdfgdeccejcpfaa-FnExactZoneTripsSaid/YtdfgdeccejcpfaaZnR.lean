/- What flows into a zone: the reference's sums; plain laws. No program is in sight here. -/
import Derived.Test.YtdfgdeccejcpfaaZnQ
namespace Go.Proofs.Ytdfgdeccejcpfaa
set_option linter.unusedSimpArgs false
set_option linter.unusedVariables false

noncomputable def f01 (P : Prop) : Int := @ite _ P (Classical.propDecidable P) 1 0
theorem f01_t {P : Prop} (h : P) : f01 P = 1 := by unfold f01; rw [if_pos h]
theorem f01_f {P : Prop} (h : ¬ P) : f01 P = 0 := by unfold f01; rw [if_neg h]
theorem f01_congr {P Q : Prop} (h : P ↔ Q) : f01 P = f01 Q := by rw [propext h]
theorem f01_cases (P : Prop) : (P ∧ f01 P = 1) ∨ (¬ P ∧ f01 P = 0) := by
  rcases Classical.em P with h | h
  · exact .inl ⟨h, f01_t h⟩
  · exact .inr ⟨h, f01_f h⟩
theorem sumN_pick {n k : Nat} {f : Nat → Int} (hk : k < n) (h : ∀ i, i < n → i ≠ k → f i = 0) : sumN f n = f k := by
  rw [← sumN_one (f k) hk]
  refine sumN_congr fun i hi => ?_
  split
  · rename_i e; rw [e]
  · rename_i e; exact h i hi e
theorem sumN_none {n : Nat} {f : Nat → Int} (h : ∀ i, i < n → f i = 0) : sumN f n = 0 := by
  rw [sumN_congr (g := fun _ => 0) h, sumN_zero]
/-- The sum that a zone's buses want, of those that are alive. -/
noncomputable def zsum (ls : List R3) (on : List Bool) (bs : List R2) (z : Nat → Prop) : Int := sumN (fun i => loadAt bs i * f01 (z i ∧ aliveP ls on bs i)) bs.length
noncomputable def islL (ls : List R3) (on : List Bool) (bs : List R2) (k : Nat) : Int := sumN (fun j => loadAt bs j * f01 (Cn ls on k j)) bs.length
noncomputable def islF (ls : List R3) (on : List Bool) (bs : List R2) (k : Nat) : Int := sumN (fun j => feedAt bs j * f01 (Cn ls on k j)) bs.length
noncomputable def flowS (ls : List R3) (bs : List R2) (p : List Int) (l : Nat) : Int := sumN (fun j => loadAt bs j * ((way ls p j).count l : Int)) bs.length
/-- One bus's part of the reference's sum. -/
noncomputable def zpart (ls : List R3) (on : List Bool) (bs : List R2) (p : List Int) (z : Nat → Prop) (k : Nat) : Int :=
  f01 (z k ∧ 0 < feedAt bs k) * islL ls on bs k + (if 0 ≤ p.getD k (-2) then (f01 (z k) - f01 (z (oth ls (p.getD k (-2)).toNat k))) * flowS ls bs p (p.getD k (-2)).toNat else 0)
section
variable {ls : List R3} {on : List Bool} {bs : List R2} {p : List Int} {rk : Nat → Nat} {B : Nat}
theorem oth_end {k i : Nat} (h : endsAt ls k i) (hne : lA ls k ≠ lB ls k) : endsAt ls k (oth ls k i) ∧ oth ls k i ≠ i ∧ oth ls k (oth ls k i) = i ∧ (∀ j, endsAt ls k j → j = i ∨ j = oth ls k i) := by
  unfold endsAt at *
  unfold oth
  rcases h with h | h
  · rw [if_pos h]
    refine ⟨.inr rfl, by omega, ?_, fun j hj => by omega⟩
    rw [if_neg hne]; exact h
  · have : lA ls k ≠ i := by omega
    rw [if_neg this]
    refine ⟨.inl rfl, this, ?_, fun j hj => by omega⟩
    rw [if_pos rfl]; exact h
theorem Leads.inj (hE : EndsOk ls on B) (h : Leads ls on bs p rk) {c d : Nat} (hc : 0 ≤ p.getD c (-2)) (e : p.getD d (-2) = p.getD c (-2)) : d = c := by
  obtain ⟨c1, c2, c3, c4⟩ := h.line c hc
  obtain ⟨d1, d2, d3, d4⟩ := h.line d (by omega)
  rw [e] at d1 d2 d3 d4
  obtain ⟨_, _, _, hne⟩ := hE _ c1
  obtain ⟨e1, e2, e3, e4⟩ := oth_end c2 hne
  rcases e4 d d2 with q | q
  · exact q
  · subst q
    rw [e3] at d4
    omega
/-- What one bus's way adds up to. -/
theorem Leads.tele (hE : EndsOk ls on bs.length) (hB : p.length = bs.length) (h : Leads ls on bs p rk) (z : Nat → Prop) {j : Nat} {W : List Nat} (hw : WayOf ls p j W) (hj : -2 < p.getD j (-2)) :
    ∃ r, isFeed bs r ∧ Cn ls on r j ∧ sumN (fun c => if 0 ≤ p.getD c (-2) then (f01 (z c) - f01 (z (oth ls (p.getD c (-2)).toNat c))) * (W.count (p.getD c (-2)).toNat : Int) else 0) bs.length = f01 (z j) - f01 (z r) := by
  induction hw with
  | @stop b hb =>
    have hfd := (h.feed b).2 (by omega)
    refine ⟨b, ⟨feedAt_lt hfd, hfd⟩, .refl _, ?_⟩
    rw [sumN_none (fun i _ => by simp)]; omega
  | @go b W hb hw ih =>
    obtain ⟨l1, l2, l3, l4⟩ := h.line b hb
    obtain ⟨r, hr, hc, hs⟩ := ih l3
    obtain ⟨_, _, _, hne⟩ := hE _ l1
    refine ⟨r, hr, hc.step l1 ?_, ?_⟩
    · unfold oth endsAt at *
      split
      · rename_i e; exact .inr ⟨rfl, e⟩
      · rename_i e; exact .inl ⟨rfl, by omega⟩
    · have hbB : b < bs.length := by
        rw [← hB]
        rcases Nat.lt_or_ge b p.length with hk | hk
        · exact hk
        · rw [List.getD_eq_getElem?_getD, List.getElem?_eq_none hk] at hb; simp at hb
      have hone : sumN (fun c => if 0 ≤ p.getD c (-2) then (f01 (z c) - f01 (z (oth ls (p.getD c (-2)).toNat c))) * (([(p.getD b (-2)).toNat] : List Nat).count (p.getD c (-2)).toNat : Int) else 0) bs.length = f01 (z b) - f01 (z (oth ls (p.getD b (-2)).toNat b)) := by
        rw [sumN_pick hbB (fun i _ hi => ?_)]
        · rw [if_pos hb]; simp
        · split
          · rename_i h0
            have hne2 : (p.getD b (-2)).toNat ≠ (p.getD i (-2)).toNat := fun e => hi (h.inj hE hb (by omega))
            rw [List.count_singleton]
            have : ((p.getD b (-2)).toNat == (p.getD i (-2)).toNat) = false := by rw [beq_eq_false_iff_ne]; exact hne2
            rw [this]; simp
          · rfl
      have hsplit : ∀ c, (if 0 ≤ p.getD c (-2) then (f01 (z c) - f01 (z (oth ls (p.getD c (-2)).toNat c))) * ((W ++ [(p.getD b (-2)).toNat]).count (p.getD c (-2)).toNat : Int) else 0)
          = (if 0 ≤ p.getD c (-2) then (f01 (z c) - f01 (z (oth ls (p.getD c (-2)).toNat c))) * (W.count (p.getD c (-2)).toNat : Int) else 0) + (if 0 ≤ p.getD c (-2) then (f01 (z c) - f01 (z (oth ls (p.getD c (-2)).toNat c))) * (([(p.getD b (-2)).toNat] : List Nat).count (p.getD c (-2)).toNat : Int) else 0) := by
        intro c
        split
        · rw [List.count_append, Int.natCast_add, Int.mul_add]
        · rfl
      rw [sumN_congr (fun c _ => hsplit c), sumN_add, hs, hone]
      omega
/-- The reference's sum over all buses is what the zone's buses want. -/
theorem Leads.flow (hE : EndsOk ls on bs.length) (hB : p.length = bs.length) (h : Leads ls on bs p rk) (ho : oneFeed ls on bs) (hal : ∀ i, -2 < p.getD i (-2) ↔ aliveP ls on bs i) (z : Nat → Prop) :
    sumN (zpart ls on bs p z) bs.length = zsum ls on bs z := by
  have e1 : sumN (fun k => f01 (z k ∧ 0 < feedAt bs k) * islL ls on bs k) bs.length = sumN (fun j => loadAt bs j * sumN (fun k => f01 (z k ∧ 0 < feedAt bs k) * f01 (Cn ls on k j)) bs.length) bs.length := by
    unfold islL
    rw [sumN_congr (g := fun k => sumN (fun j => f01 (z k ∧ 0 < feedAt bs k) * (loadAt bs j * f01 (Cn ls on k j))) bs.length) (fun k _ => (sumN_mul _ _ _).symm), sumN_swap]
    refine sumN_congr fun j _ => ?_
    rw [← sumN_mul]
    refine sumN_congr fun k _ => ?_
    rw [Int.mul_left_comm]
  have e2 : sumN (fun c => if 0 ≤ p.getD c (-2) then (f01 (z c) - f01 (z (oth ls (p.getD c (-2)).toNat c))) * flowS ls bs p (p.getD c (-2)).toNat else 0) bs.length
      = sumN (fun j => loadAt bs j * sumN (fun c => if 0 ≤ p.getD c (-2) then (f01 (z c) - f01 (z (oth ls (p.getD c (-2)).toNat c))) * ((way ls p j).count (p.getD c (-2)).toNat : Int) else 0) bs.length) bs.length := by
    unfold flowS
    rw [sumN_congr (g := fun c => sumN (fun j => if 0 ≤ p.getD c (-2) then (f01 (z c) - f01 (z (oth ls (p.getD c (-2)).toNat c))) * (loadAt bs j * ((way ls p j).count (p.getD c (-2)).toNat : Int)) else 0) bs.length) (fun c _ => ?_), sumN_swap]
    · refine sumN_congr fun j _ => ?_
      rw [← sumN_mul]
      refine sumN_congr fun c _ => ?_
      split
      · rw [Int.mul_left_comm]
      · rw [Int.mul_zero]
    · split
      · rw [sumN_mul]
      · rw [sumN_zero]
  unfold zsum
  rw [show sumN (zpart ls on bs p z) bs.length = _ from sumN_add _ _ _, e1, e2, ← sumN_add]
  refine sumN_congr fun j hj => ?_
  rw [← Int.mul_add]
  congr 1
  by_cases ha : aliveP ls on bs j
  · obtain ⟨W, hW, _⟩ := h.wayEx (rk j + 1) j (by omega)
    obtain ⟨r, hr, hc, ht⟩ := h.tele hE hB z hW ((hal j).2 ha)
    rw [way_eq hW, ht]
    have hk : sumN (fun k => f01 (z k ∧ 0 < feedAt bs k) * f01 (Cn ls on k j)) bs.length = f01 (z r) := by
      rw [sumN_pick hr.1 (fun i hi hne => ?_)]
      · rw [f01_t hc, Int.mul_one]; exact f01_congr ⟨fun h => h.1, fun h => ⟨h, hr.2⟩⟩
      · rcases f01_cases (z i ∧ 0 < feedAt bs i) with ⟨h1, h2⟩ | ⟨h1, h2⟩
        · rw [f01_f (P := Cn ls on i j) (fun hcc => hne (ho i r ⟨hi, h1.2⟩ hr (hcc.trans hc.symm))), Int.mul_zero]
        · rw [h2, Int.zero_mul]
    rw [hk, f01_congr (P := z j ∧ aliveP ls on bs j) (Q := z j) ⟨fun h => h.1, fun h => ⟨h, ha⟩⟩]
    omega
  · have hw : WayOf ls p j [] := .stop (by
      rcases Int.lt_or_le (-2) (p.getD j (-2)) with h1 | h1
      · exact absurd ((hal j).1 h1) ha
      · omega)
    rw [way_eq hw, f01_f (P := z j ∧ aliveP ls on bs j) (fun h => ha h.2), sumN_none (fun i hi => ?_), sumN_none (fun i _ => by simp)]
    · rfl
    · rcases f01_cases (z i ∧ 0 < feedAt bs i) with ⟨h1, h2⟩ | ⟨h1, h2⟩
      · rw [f01_f (P := Cn ls on i j) (fun hcc => ha ⟨i, ⟨hi, h1.2⟩, hcc⟩), Int.mul_zero]
      · rw [h2, Int.zero_mul]
end
end Go.Proofs.Ytdfgdeccejcpfaa
