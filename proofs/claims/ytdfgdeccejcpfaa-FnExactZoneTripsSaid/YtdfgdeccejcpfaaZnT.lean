/- The program's tree while it is made; plain laws. No program is in sight here. -/
import Derived.Test.YtdfgdeccejcpfaaZnS

namespace Go.Proofs.Ytdfgdeccejcpfaa
set_option linter.unusedSimpArgs false
set_option linter.unusedVariables false

theorem nodup_short : ∀ (n : Nat) (l : List Nat), l.Nodup → (∀ x ∈ l, x < n) → l.length ≤ n
  | 0, l, _, h => by
    cases l with
    | nil => simp
    | cons a l => have := h a (by simp); omega
  | n + 1, l, hd, h => by
    have h1 := nodup_short n (l.erase n) (hd.erase n) (fun x hx => by
      have hm := List.mem_of_mem_erase hx
      have := h x hm
      have hne : x ≠ n := fun e => by subst e; exact absurd hx hd.not_mem_erase
      omega)
    by_cases hm : n ∈ l
    · rw [List.length_erase_of_mem hm] at h1; omega
    · rw [List.erase_of_not_mem hm] at h1; omega
/-- The tree while it is made: of the order the first d buses are followed; the feeds below n are in. -/
structure TreeS (ls : List R3) (on : List Bool) (bs : List R2) (n d : Nat) (F P : List Int) (O : List Nat) : Prop where
  lenF : F.length = bs.length
  lenP : P.length = bs.length
  lo : ∀ i, -1 ≤ F.getD i (-1)
  loP : ∀ i, -1 ≤ P.getD i (-1)
  own : ∀ i, 0 ≤ F.getD i (-1) → isFeed bs (F.getD i (-1)).toNat ∧ Cn ls on (F.getD i (-1)).toNat i ∧ F.getD i (-1) < n
  root : ∀ i, 0 ≤ F.getD i (-1) → P.getD i (-1) < 0 → F.getD i (-1) = i
  line : ∀ i, 0 ≤ P.getD i (-1) → 0 ≤ F.getD i (-1) ∧ isOn on (P.getD i (-1)).toNat ∧ endsAt ls (P.getD i (-1)).toNat i ∧ F.getD (oth ls (P.getD i (-1)).toNat i) (-1) = F.getD i (-1)
  ord : ∀ i, i ∈ O ↔ 0 ≤ F.getD i (-1)
  nodup : O.Nodup
  before : ∀ A b C, O = A ++ b :: C → 0 ≤ P.getD b (-1) → oth ls (P.getD b (-1)).toNat b ∈ A
  done : ∀ b, b ∈ O.take d → ∀ k, isOn on k → endsAt ls k b → 0 ≤ F.getD (oth ls k b) (-1)
  feeds : ∀ i, i < n → isFeed bs i → 0 ≤ F.getD i (-1)
  one : ∀ i j, i < n → j < n → isFeed bs i → isFeed bs j → Cn ls on i j → i = j
section
variable {ls : List R3} {on : List Bool} {bs : List R2} {F P : List Int} {O : List Nat} {B n d : Nat}
theorem getD_rep (B i : Nat) (v : Int) : (List.replicate B v).getD i v = v := by
  rw [List.getD_eq_getElem?_getD, List.getElem?_replicate]; split <;> rfl
theorem getD_oob {α : Type} {l : List α} {i : Nat} {v : α} (h : l.length ≤ i) : l.getD i v = v := by
  rw [List.getD_eq_getElem?_getD, List.getElem?_eq_none h]; rfl
theorem TreeS.start : TreeS ls on bs 0 0 (List.replicate bs.length (-1)) (List.replicate bs.length (-1)) [] := by
  refine ⟨by simp, by simp, fun i => ?_, fun i => ?_, fun i hi => ?_, fun i hi => ?_, fun i hi => ?_, fun i => ?_, by simp, fun A b C e => ?_, fun b hb => by simp at hb, fun i hi => by omega, fun i j hi => by omega⟩
  · rw [getD_rep]; omega
  · rw [getD_rep]; omega
  · rw [getD_rep] at hi; omega
  · rw [getD_rep] at hi; omega
  · rw [getD_rep] at hi; omega
  · rw [getD_rep]; simp
  · simp at e
theorem TreeS.fedlt (h : TreeS ls on bs n d F P O) {i : Nat} (hi : 0 ≤ F.getD i (-1)) : i < bs.length := by
  rw [← h.lenF]
  rcases Nat.lt_or_ge i F.length with hk | hk
  · exact hk
  · rw [getD_oob hk] at hi; omega
theorem TreeS.parlt (h : TreeS ls on bs n d F P O) {i : Nat} (hi : 0 ≤ P.getD i (-1)) : i < bs.length := h.fedlt (h.line i hi).1
theorem TreeS.closed (hE : EndsOk ls on bs.length) (h : TreeS ls on bs n d F P O) (hd : d = O.length) {a b : Nat} (hc : Cn ls on a b) (ha : 0 ≤ F.getD a (-1)) : 0 ≤ F.getD b (-1) := by
  refine Conn.keeps (P := fun i => 0 ≤ F.getD i (-1)) hc ha (fun k hk => ?_)
  obtain ⟨_, _, _, hne⟩ := hE k hk
  have ht : O.take d = O := by rw [hd]; simp
  constructor
  · intro q
    have := h.done _ (by rw [ht]; exact (h.ord _).2 q) k hk (.inl rfl)
    rwa [oth_A] at this
  · intro q
    have := h.done _ (by rw [ht]; exact (h.ord _).2 q) k hk (.inr rfl)
    rwa [oth_B hne] at this
theorem TreeS.skip (h : TreeS ls on bs n d F P O) (hn : ¬ isFeed bs n) : TreeS ls on bs (n + 1) d F P O := by
  refine ⟨h.lenF, h.lenP, h.lo, h.loP, fun i hi => ?_, h.root, h.line, h.ord, h.nodup, h.before, h.done, fun i hi hf => ?_, fun i j hi hj fi fj hc => ?_⟩
  · obtain ⟨a, b, c⟩ := h.own i hi; exact ⟨a, b, by omega⟩
  · by_cases e : i = n
    · subst e; exact absurd hf hn
    · exact h.feeds i (by omega) hf
  · by_cases e : i = n
    · subst e; exact absurd fi hn
    · by_cases e' : j = n
      · subst e'; exact absurd fj hn
      · exact h.one i j (by omega) (by omega) fi fj hc
theorem TreeS.twice (h : TreeS ls on bs n d F P O) (hn : isFeed bs n) (hF : 0 ≤ F.getD n (-1)) : ¬ oneFeed ls on bs := by
  intro ho
  obtain ⟨a, b, c⟩ := h.own n hF
  have := ho _ _ a hn b
  omega
theorem append_mid {O A C : List Nat} {m b : Nat} (e : O ++ [m] = A ++ b :: C) : (b = m ∧ A = O ∧ C = []) ∨ ∃ C', C = C' ++ [m] ∧ O = A ++ b :: C' := by
  rcases List.eq_nil_or_concat C with rfl | ⟨C', x, rfl⟩
  · left
    have := List.append_inj' e rfl
    simp at this
    exact ⟨this.2.symm, this.1.symm, rfl⟩
  · right
    rw [List.concat_eq_append] at e ⊢
    rw [← List.cons_append, ← List.append_assoc] at e
    have := List.append_inj' e rfl
    simp at this
    exact ⟨C', by rw [this.2], this.1⟩
theorem TreeS.addFeed (hE : EndsOk ls on bs.length) (h : TreeS ls on bs n d F P O) (hd : d = O.length) (hn : isFeed bs n) (hF : ¬ 0 ≤ F.getD n (-1)) : TreeS ls on bs (n + 1) d (F.set n (n : Int)) P (O ++ [n]) := by
  have hnB : n < F.length := by rw [h.lenF]; exact hn.1
  have hg : ∀ i, (F.set n (n : Int)).getD i (-1) = if i = n then (n : Int) else F.getD i (-1) := fun i => by
    rw [getD_set]
    by_cases e : i = n
    · rw [if_pos ⟨e, hnB⟩, if_pos e]
    · rw [if_neg (fun q => e q.1), if_neg e]
  have hPn : ¬ 0 ≤ P.getD n (-1) := fun q => hF (h.line n q).1
  have hnO : n ∉ O := fun q => hF ((h.ord n).1 q)
  refine ⟨by simp [h.lenF], h.lenP, fun i => ?_, h.loP, fun i hi => ?_, fun i hi hp => ?_, fun i hi => ?_, fun i => ?_, ?_, fun A b C e hb => ?_, fun b hb k hk he => ?_, fun i hi hf => ?_, fun i j hi hj fi fj hc => ?_⟩
  · rw [hg]; split
    · omega
    · exact h.lo i
  · rw [hg] at hi ⊢
    split at hi
    · rename_i e; rw [if_pos e, Int.toNat_natCast, e]; exact ⟨hn, .refl _, by omega⟩
    · rename_i e; rw [if_neg e]; obtain ⟨a, b, c⟩ := h.own i hi; exact ⟨a, b, by omega⟩
  · rw [hg] at hi ⊢
    split
    · rename_i e; rw [e]
    · rename_i e; rw [if_neg e] at hi; exact h.root i hi hp
  · obtain ⟨a, b, c, e⟩ := h.line i hi
    have hi' : i ≠ n := fun q => hPn (q ▸ hi)
    have ho' : oth ls (P.getD i (-1)).toNat i ≠ n := fun q => by rw [q] at e; omega
    rw [hg, hg, if_neg hi', if_neg ho']
    exact ⟨a, b, c, e⟩
  · rw [hg, List.mem_append, List.mem_singleton, h.ord]
    split
    · rename_i e; exact ⟨fun _ => by omega, fun _ => .inr e⟩
    · rename_i e; exact ⟨fun q => by rcases q with q | q; exact q; exact absurd q e, fun q => .inl q⟩
  · rw [List.nodup_append]
    exact ⟨h.nodup, by simp, fun a ha b hb => by simp at hb; subst hb; exact fun q => hnO (q ▸ ha)⟩
  · rcases append_mid e with ⟨e1, e2, e3⟩ | ⟨C', e1, e2⟩
    · subst e1; exact absurd hb hPn
    · exact h.before A b C' e2 hb
  · rw [List.take_append_of_le_length (by omega)] at hb
    have := h.done b hb k hk he
    rw [hg]; split
    · omega
    · exact this
  · rw [hg]; split
    · omega
    · rename_i e; exact h.feeds i (by omega) hf
  · by_cases e : i = n
    · by_cases e' : j = n
      · omega
      · subst e; exact absurd (h.closed hE hd hc.symm (h.feeds j (by omega) fj)) hF
    · by_cases e' : j = n
      · subst e'; exact absurd (h.closed hE hd hc (h.feeds i (by omega) fi)) hF
      · exact h.one i j (by omega) (by omega) fi fj hc
theorem TreeS.addLine (hE : EndsOk ls on bs.length) (h : TreeS ls on bs n d F P O) (hd : d < O.length) (k : Nat) (hk : isOn on k) (b : Nat) (hb : b ∈ O) (he : endsAt ls k b) (hF : ¬ 0 ≤ F.getD (oth ls k b) (-1)) :
    TreeS ls on bs n d (F.set (oth ls k b) (F.getD b (-1))) (P.set (oth ls k b) (k : Int)) (O ++ [oth ls k b]) := by
  obtain ⟨hkl, hA, hB, hne⟩ := hE k hk
  obtain ⟨o1, o2, o3, o4⟩ := oth_end he hne
  have hbF := (h.ord b).1 hb
  have hmB : oth ls k b < bs.length := by unfold oth; split <;> omega
  have hstep : (lA ls k = b ∧ lB ls k = oth ls k b) ∨ (lB ls k = b ∧ lA ls k = oth ls k b) := by
    unfold oth at o1 o2 ⊢; unfold endsAt at he
    split
    · rename_i q; exact .inl ⟨q, rfl⟩
    · rename_i q; exact .inr ⟨by omega, rfl⟩
  generalize hm : oth ls k b = m at *
  have hg : ∀ i, (F.set m (F.getD b (-1))).getD i (-1) = if i = m then F.getD b (-1) else F.getD i (-1) := fun i => by
    rw [getD_set]
    by_cases e : i = m
    · rw [if_pos ⟨e, by rw [h.lenF]; exact hmB⟩, if_pos e]
    · rw [if_neg (fun q => e q.1), if_neg e]
  have hgP : ∀ i, (P.set m (k : Int)).getD i (-1) = if i = m then (k : Int) else P.getD i (-1) := fun i => by
    rw [getD_set]
    by_cases e : i = m
    · rw [if_pos ⟨e, by rw [h.lenP]; exact hmB⟩, if_pos e]
    · rw [if_neg (fun q => e q.1), if_neg e]
  have hmO : m ∉ O := fun q => hF ((h.ord m).1 q)
  have hbm : b ≠ m := fun q => o2 q.symm
  refine ⟨by simp [h.lenF], by simp [h.lenP], fun i => ?_, fun i => ?_, fun i hi => ?_, fun i hi hp => ?_, fun i hi => ?_, fun i => ?_, ?_, fun A c C e hc => ?_, fun c hc j hj hje => ?_, fun i hi hf => ?_, h.one⟩
  · rw [hg]; split
    · exact h.lo b
    · exact h.lo i
  · rw [hgP]; split
    · omega
    · exact h.loP i
  · rw [hg] at hi ⊢
    split at hi
    · rename_i e
      rw [if_pos e]
      obtain ⟨a1, a2, a3⟩ := h.own b hbF
      refine ⟨a1, ?_, a3⟩
      rw [e]
      exact a2.step hk hstep
    · rename_i e; rw [if_neg e]; exact h.own i hi
  · rw [hgP] at hp
    rw [hg] at hi ⊢
    split at hp
    · omega
    · rename_i e; rw [if_neg e] at hi ⊢; exact h.root i hi hp
  · rw [hgP] at hi ⊢
    by_cases e : i = m
    · rw [if_pos e, Int.toNat_natCast, hg, if_pos e]
      subst e
      exact ⟨hbF, hk, o1, by rw [o3, hg, if_neg hbm]⟩
    · rw [if_neg e] at hi ⊢
      obtain ⟨a1, a2, a3, a4⟩ := h.line i hi
      have ho' : oth ls (P.getD i (-1)).toNat i ≠ m := fun q => by rw [q] at a4; omega
      rw [hg, hg, if_neg e, if_neg ho']
      exact ⟨a1, a2, a3, a4⟩
  · rw [hg, List.mem_append, List.mem_singleton, h.ord]
    split
    · rename_i e; exact ⟨fun _ => hbF, fun _ => .inr e⟩
    · rename_i e; exact ⟨fun q => by rcases q with q | q; exact q; exact absurd q e, fun q => .inl q⟩
  · rw [List.nodup_append]
    exact ⟨h.nodup, by simp, fun a ha c hc => by simp at hc; subst hc; exact fun q => hmO (q ▸ ha)⟩
  · rw [hgP] at hc ⊢
    rcases append_mid e with ⟨e1, e2, e3⟩ | ⟨C', e1, e2⟩
    · rw [if_pos e1, Int.toNat_natCast, e1, o3, e2]; exact hb
    · have hcm : c ≠ m := fun q => hmO (by rw [e2, ← q]; simp)
      rw [if_neg hcm] at hc ⊢
      exact h.before A c C' e2 hc
  · rw [List.take_append_of_le_length (by omega)] at hc
    have := h.done c hc j hj hje
    rw [hg]; split
    · exact hbF
    · exact this
  · have := h.feeds i hi hf
    rw [hg]; split
    · exact hbF
    · exact this
theorem TreeS.next (h : TreeS ls on bs n d F P O) (hd : d < O.length) (hb : ∀ k, isOn on k → endsAt ls k O[d] → 0 ≤ F.getD (oth ls k O[d]) (-1)) : TreeS ls on bs n (d + 1) F P O := by
  refine ⟨h.lenF, h.lenP, h.lo, h.loP, h.own, h.root, h.line, h.ord, h.nodup, h.before, fun b hb' k hk he => ?_, h.feeds, h.one⟩
  rw [List.take_add_one, List.getElem?_eq_getElem hd] at hb'
  rcases List.mem_append.1 hb' with q | q
  · exact h.done b q k hk he
  · simp at q; subst q; exact hb k hk he
theorem TreeS.tree (hE : EndsOk ls on bs.length) (h : TreeS ls on bs bs.length O.length F P O) : TreeP ls on bs F P O ∧ oneFeed ls on bs := by
  refine ⟨⟨h.lenF, h.lenP, fun i => ⟨fun q => ?_, fun ⟨f, hf, hc⟩ => ?_⟩, fun i hi => ⟨(h.own i hi).1, (h.own i hi).2.1⟩, h.root, h.line, h.ord, h.nodup, h.before⟩, fun i j fi fj hc => h.one i j fi.1 fj.1 fi fj hc⟩
  · obtain ⟨a, b, _⟩ := h.own i q; exact ⟨_, a, b⟩
  · exact h.closed hE rfl hc (h.feeds f hf.1 hf)
/-- The order is not longer than there are buses. -/
theorem TreeS.short (h : TreeS ls on bs n d F P O) : O.length ≤ bs.length := by
  exact nodup_short bs.length O h.nodup fun i hi => h.fedlt ((h.ord i).1 hi)
end
end Go.Proofs.Ytdfgdeccejcpfaa
