/- Leaks: plain laws. No program is in sight here. -/
import Derived.Test.YtdfgdeccejcpfaaZnU
namespace Go.Proofs.Ytdfgdeccejcpfaa
set_option linter.unusedSimpArgs false
set_option linter.unusedVariables false

def busAt (bs : List R2) (i : Nat) : R2 := bs.getD i ⟨0, 0⟩
def leakN (bs : List R2) (lk : List Int) (i : Nat) : R2 := ⟨(busAt bs i).a, IntKind.i64.wrap ((busAt bs i).b + lk.getD i 0)⟩
/-- The first i buses with their leaks. -/
def leakTo (bs : List R2) (lk : List Int) : Nat → List R2
  | 0 => bs
  | i + 1 => (leakTo bs lk i).set i (leakN bs lk i)
theorem leakTo_len (bs : List R2) (lk : List Int) (i : Nat) : (leakTo bs lk i).length = bs.length := by
  induction i with
  | zero => rfl
  | succ i ih => show ((leakTo bs lk i).set i _).length = _; rw [List.length_set, ih]
theorem leakTo_at (bs : List R2) (lk : List Int) (i j : Nat) (hj : j < bs.length) : busAt (leakTo bs lk i) j = if j < i then leakN bs lk j else busAt bs j := by
  induction i with
  | zero => rw [if_neg (by omega)]; rfl
  | succ i ih =>
    unfold busAt at *
    show ((leakTo bs lk i).set i (leakN bs lk i)).getD j ⟨0, 0⟩ = _
    rw [getD_set, leakTo_len]
    by_cases e : j = i
    · subst e; rw [if_pos ⟨rfl, hj⟩, if_pos (by omega)]
    · rw [if_neg (fun h => e h.1), ih]
      by_cases h : j < i
      · rw [if_pos h, if_pos (by omega)]
      · rw [if_neg h, if_neg (by omega)]
def leakL (bs : List R2) (lk : List Int) : List R2 := leakTo bs lk bs.length
theorem leakL_len (bs : List R2) (lk : List Int) : (leakL bs lk).length = bs.length := leakTo_len _ _ _
theorem leakL_at {bs : List R2} {lk : List Int} {j : Nat} (hj : j < bs.length) : busAt (leakL bs lk) j = leakN bs lk j := by unfold leakL; rw [leakTo_at _ _ _ _ hj, if_pos hj]
def lkOk (lk : List Int) : Prop := ∀ x ∈ lk, 0 ≤ x ∧ x ≤ 999
instance (lk : List Int) : Decidable (lkOk lk) := by unfold lkOk; infer_instance
/-- What ZoneDiff returns. -/
noncomputable def zdV (B : Int) (ls : List R3) (on : List Bool) (bs : List R2) (lk zs : List Int) : Int :=
  if lk.length = bs.length ∧ lkOk lk then (if zlV B ls on bs zs < 0 ∨ zlV B ls on (leakL bs lk) zs < 0 then -1 else zlV B ls on (leakL bs lk) zs - zlV B ls on bs zs) else -1
section
variable {B : Int} {ls : List R3} {on : List Bool} {bs : List R2} {lk zs : List Int}
theorem zlV_bd (B : Int) (ls : List R3) (on : List Bool) (bs : List R2) (zs : List Int) : -1 ≤ zlV B ls on bs zs ∧ zlV B ls on bs zs ≤ 7992 := by
  rcases Classical.em (RadP B ls on bs ∧ ZoneP B zs) with h | h
  · rw [zlV_t h]; have := zsum_nonneg h.1.1 (fun i => (i : Int) ∈ zs); omega
  · rw [zlV_f h]; omega
theorem zlV_neg {B : Int} {ls : List R3} {on : List Bool} {bs : List R2} {zs : List Int} : zlV B ls on bs zs < 0 ↔ ¬ (RadP B ls on bs ∧ ZoneP B zs) := by
  constructor
  · intro h hp; rw [zlV_t hp] at h; have := zsum_nonneg hp.1.1 (fun i => (i : Int) ∈ zs); omega
  · intro h; rw [zlV_f h]; omega
theorem feed_leak (i : Nat) : isFeed (leakL bs lk) i ↔ isFeed bs i := by
  unfold isFeed
  rw [leakL_len]
  constructor
  · rintro ⟨h1, h2⟩
    have : feedAt (leakL bs lk) i = feedAt bs i := by show (busAt (leakL bs lk) i).a = (busAt bs i).a; rw [leakL_at h1]; rfl
    exact ⟨h1, by rw [← this]; exact h2⟩
  · rintro ⟨h1, h2⟩
    have : feedAt (leakL bs lk) i = feedAt bs i := by show (busAt (leakL bs lk) i).a = (busAt bs i).a; rw [leakL_at h1]; rfl
    exact ⟨h1, by rw [this]; exact h2⟩
theorem alive_leak (i : Nat) : aliveP ls on (leakL bs lk) i ↔ aliveP ls on bs i := by
  unfold aliveP
  constructor
  · rintro ⟨f, h1, h2⟩; exact ⟨f, (feed_leak f).1 h1, h2⟩
  · rintro ⟨f, h1, h2⟩; exact ⟨f, (feed_leak f).2 h1, h2⟩
/-- No load is too great with its leak. -/
def fitP (bs : List R2) (lk : List Int) : Prop := ∀ i, i < bs.length → (leakN bs lk i).b ≤ 999
instance (bs : List R2) (lk : List Int) : Decidable (fitP bs lk) := by unfold fitP; infer_instance
theorem busAt_mem {bs : List R2} {i : Nat} (hi : i < bs.length) : busAt bs i ∈ bs := by unfold busAt; rw [getD_lt hi]; exact List.getElem_mem hi
theorem rad_leak (h : RadP B ls on bs) (hl : lk.length = bs.length) (hk : lkOk lk) (hf : fitP bs lk) : RadP B ls on (leakL bs lk) := by
  refine ⟨⟨h.1.1, by rw [leakL_len]; exact h.1.2.1, fun x hx => ?_⟩, h.2.1, fun i j fi fj hc => h.2.2 i j ((feed_leak i).1 fi) ((feed_leak j).1 fj) hc⟩
  obtain ⟨i, hi, rfl⟩ := List.mem_iff_getElem.1 hx
  have hi' : i < bs.length := by rw [leakL_len] at hi; exact hi
  have e : (leakL bs lk)[i] = leakN bs lk i := by rw [← leakL_at hi']; unfold busAt; rw [getD_lt hi]
  rw [e]
  have hb := h.1.2.2 _ (busAt_mem hi')
  have hf' := hf i hi'
  have hlk := hk (lk.getD i 0) (by rw [getD_lt (by omega)]; exact List.getElem_mem _)
  unfold BusOk at hb ⊢
  unfold leakN at hf' ⊢
  simp only at hf' ⊢
  have hw : IntKind.i64.wrap ((busAt bs i).b + lk.getD i 0) = (busAt bs i).b + lk.getD i 0 := IntWalk.i64_in _ (by omega)
  rw [hw] at hf' ⊢
  omega
theorem rad_unfit (hf : ¬ fitP bs lk) : ¬ RadP B ls on (leakL bs lk) := fun h => hf (fun i hi => by
  have hi' : i < (leakL bs lk).length := by rw [leakL_len]; exact hi
  have := h.1.2.2 _ (busAt_mem hi')
  rw [leakL_at hi] at this
  exact this.2.2.2)
/-- The reference's way to the same number. -/
theorem zdV_spec (hl : lk.length = bs.length) (hk : lkOk lk) (hf : fitP bs lk) (hr : RadP B ls on bs) (hz : ZoneP B zs) : zdV B ls on bs lk zs = zlV B ls on (leakL bs lk) zs - zlV B ls on bs zs ∧ 0 ≤ zlV B ls on (leakL bs lk) zs ∧ 0 ≤ zlV B ls on bs zs := by
  have h1 : ¬ zlV B ls on bs zs < 0 := fun h => (zlV_neg.1 h) ⟨hr, hz⟩
  have h2 : ¬ zlV B ls on (leakL bs lk) zs < 0 := fun h => (zlV_neg.1 h) ⟨rad_leak hr hl hk hf, hz⟩
  refine ⟨?_, by omega, by omega⟩
  unfold zdV; rw [if_pos ⟨hl, hk⟩, if_neg (fun h => h.elim h1 h2)]
theorem zdV_none (h : ¬ (lk.length = bs.length ∧ lkOk lk ∧ fitP bs lk ∧ RadP B ls on bs ∧ ZoneP B zs)) : zdV B ls on bs lk zs = -1 := by
  unfold zdV
  split
  · rename_i hq
    rw [if_pos]
    by_cases hf : fitP bs lk
    · by_cases hr : RadP B ls on bs ∧ ZoneP B zs
      · exact absurd ⟨hq.1, hq.2, hf, hr.1, hr.2⟩ h
      · exact .inl (zlV_neg.2 hr)
    · exact .inr (zlV_neg.2 (fun q => rad_unfit hf q.1))
  · rfl
theorem zdV_bd (B : Int) (ls : List R3) (on : List Bool) (bs : List R2) (lk zs : List Int) : -8000 ≤ zdV B ls on bs lk zs ∧ zdV B ls on bs lk zs ≤ 8000 := by
  have h1 := zlV_bd B ls on bs zs
  have h2 := zlV_bd B ls on (leakL bs lk) zs
  unfold zdV
  split
  · split <;> omega
  · omega
/-- The difference is the sum of the leaks of the zone's buses that are alive. -/
theorem zd_leaks (hl : lk.length = bs.length) (hk : lkOk lk) (hf : fitP bs lk) (hr : RadP B ls on bs) (hz : ZoneP B zs) : zdV B ls on bs lk zs = sumN (fun i => lk.getD i 0 * f01 ((i : Int) ∈ zs ∧ aliveP ls on bs i)) bs.length := by
  rw [(zdV_spec hl hk hf hr hz).1, zlV_t ⟨hr, hz⟩, zlV_t ⟨rad_leak hr hl hk hf, hz⟩]
  unfold zsum
  rw [leakL_len, ← sumN_sub]
  refine sumN_congr fun i hi => ?_
  have e : loadAt (leakL bs lk) i = loadAt bs i + lk.getD i 0 := by
    show (busAt (leakL bs lk) i).b = (busAt bs i).b + lk.getD i 0
    rw [leakL_at hi]
    unfold leakN
    have hb := hr.1.2.2 _ (busAt_mem hi)
    have hlk := hk (lk.getD i 0) (by rw [getD_lt (by omega)]; exact List.getElem_mem _)
    unfold BusOk at hb
    exact IntWalk.i64_in _ (by omega)
  rw [e, f01_congr (P := (i : Int) ∈ zs ∧ aliveP ls on (leakL bs lk) i) (Q := (i : Int) ∈ zs ∧ aliveP ls on bs i) ⟨fun t => ⟨t.1, (alive_leak i).1 t.2⟩, fun t => ⟨t.1, (alive_leak i).2 t.2⟩⟩, Int.add_mul]
  show loadAt bs i * f01 ((i : Int) ∈ zs ∧ aliveP ls on bs i) + lk.getD i 0 * f01 ((i : Int) ∈ zs ∧ aliveP ls on bs i) - loadAt bs i * f01 ((i : Int) ∈ zs ∧ aliveP ls on bs i) = _
  omega
end
end Go.Proofs.Ytdfgdeccejcpfaa
