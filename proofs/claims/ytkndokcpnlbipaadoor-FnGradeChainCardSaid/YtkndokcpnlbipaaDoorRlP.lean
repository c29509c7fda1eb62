/- Relays: plain laws of times, dials and chains. -/
import Derived.Test.YtkndokcpnlbipaaDoorRelC
import Derived.Test.YtkndokcpnlbipaaDoorRk
namespace Go.Proofs.YtkndokcpnlbipaaDoor
open Go.RowKit
set_option linter.unusedSimpArgs false
set_option linter.unusedVariables false

theorem rtime_spec {p d c : Int} (hc : p < c) : 100 * d ≤ rtime p d c * (c - p) ∧ (rtime p d c - 1) * (c - p) < 100 * d := by
  rw [rtime_gt hc]
  have hk : 0 < c - p := by omega
  generalize c - p = k at *
  have h1 := Int.ediv_mul_le (100 * d + k - 1) (by omega : k ≠ 0)
  have h2 := Int.lt_ediv_add_one_mul_self (100 * d + k - 1) hk
  generalize (100 * d + k - 1) / k = t at *
  rw [Int.add_mul, Int.one_mul] at h2
  rw [Int.sub_mul, Int.one_mul]
  omega
theorem rtime_cur {p d c : Int} (h : RelP p d) (hc : p < c) : rtime p d (c + 1) ≤ rtime p d c := by
  have h1 := rtime_spec (d := d) hc
  have h2 := rtime_spec (d := d) (p := p) (c := c + 1) (by omega)
  have hp := rtime_pos h hc
  generalize rtime p d (c + 1) = t' at *
  generalize rtime p d c = t at *
  have hk : 0 < c + 1 - p := by omega
  have e : t * (c + 1 - p) = t * (c - p) + t := by rw [show c + 1 - p = c - p + 1 by omega, Int.mul_add, Int.mul_one]
  have h3 : (t' - 1) * (c + 1 - p) < t * (c + 1 - p) := by omega
  have := Int.lt_of_mul_lt_mul_right h3 (Int.le_of_lt hk)
  omega
theorem rtime_cur_le {p d c : Int} (h : RelP p d) (hc : p < c) (k : Nat) : rtime p d (c + k) ≤ rtime p d c := by
  induction k with
  | zero => simp
  | succ k ih =>
    have := rtime_cur h (c := c + k) (by omega)
    have e : c + ((k + 1 : Nat) : Int) = c + k + 1 := by omega
    rw [e]; omega
theorem rtime_dial {p d d' c : Int} (hc : p < c) (hd : d ≤ d') : rtime p d c ≤ rtime p d' c := by
  have h1 := rtime_spec (d := d) hc
  have h2 := rtime_spec (d := d') hc
  generalize rtime p d c = t at *
  generalize rtime p d' c = t' at *
  have hk : 0 < c - p := by omega
  have h3 : (t - 1) * (c - p) < t' * (c - p) := by omega
  have := Int.lt_of_mul_lt_mul_right h3 (Int.le_of_lt hk)
  omega
theorem srt_cases {p d c : Int} : (RelP p d ∧ p < c ∧ c ≤ 400 ∧ srt p d c = rtime p d c ∧ 1 ≤ srt p d c ∧ srt p d c ≤ 6000) ∨ (¬ (RelP p d ∧ p < c ∧ c ≤ 400) ∧ srt p d c = -1) := by
  unfold srt
  by_cases h : RelP p d ∧ p < c ∧ c ≤ 400
  · rw [if_pos h]
    have := rtime_pos h.1 h.2.1
    have := rtime_bd (c := c) h.1
    exact .inl ⟨h.1, h.2.1, h.2.2, rfl, by omega, by omega⟩
  · rw [if_neg h]; exact .inr ⟨h, rfl⟩
theorem srt_bd {p d c : Int} : -1 ≤ srt p d c ∧ srt p d c ≤ 6000 := by rcases srt_cases (p := p) (d := d) (c := c) with h | h <;> omega

/-- What the law of times asks. -/
theorem time_law {p d c : Int} (hp : RelP p d) (h1 : p < c) (h4 : c ≤ 400) : 1 ≤ srt p d c ∧ srt p d c ≤ 6000 ∧ 100 * d ≤ srt p d c * (c - p) ∧ (srt p d c - 1) * (c - p) < 100 * d ∧ (c < 400 → srt p d (c + 1) ≤ srt p d c) ∧ (d < 60 → srt p d c ≤ srt p (d + 1) c) := by
  have e := srt_in hp h4
  have hq := hp
  unfold RelP at hq
  rw [e]
  refine ⟨rtime_pos hp h1, (rtime_bd hp).2, (rtime_spec h1).1, (rtime_spec h1).2, fun hc => ?_, fun hd => ?_⟩
  · rw [srt_in hp (by omega)]; exact rtime_cur hp h1
  · rw [srt_in (p := p) (d := d + 1) (by unfold RelP; omega) h4]; exact rtime_dial h1 (by omega)

/-- The least current for which the relay trips within a time. -/
def CurQ (p d t c : Int) : Prop := 0 ≤ srt p d c ∧ srt p d c ≤ t
def CurIs (p d t x : Int) : Prop := (x = -1 ∧ ∀ c, ¬ CurQ p d t c) ∨ (0 ≤ x ∧ x ≤ 400 ∧ CurQ p d t x ∧ ∀ c, c < x → ¬ CurQ p d t c)
theorem CurIs.uniq {p d t x y : Int} (h : CurIs p d t x) (k : CurIs p d t y) : x = y := by
  rcases h with ⟨rfl, h⟩ | ⟨h0, h4, h1, h2⟩
  · rcases k with ⟨rfl, k⟩ | ⟨_, _, k1, k2⟩
    · rfl
    · exact absurd k1 (h y)
  · rcases k with ⟨rfl, k⟩ | ⟨_, _, k1, k2⟩
    · exact absurd h1 (k x)
    · rcases Int.lt_trichotomy x y with hl | hl | hl
      · exact absurd h1 (k2 x hl)
      · exact hl
      · exact absurd k1 (h2 y hl)
theorem CurIs.law {p d t x : Int} (h : CurIs p d t x) {c : Int} (hc : c ≤ 400) : (0 ≤ srt p d c ∧ srt p d c ≤ t) ↔ (0 ≤ x ∧ x ≤ c) := by
  rcases h with ⟨rfl, h⟩ | ⟨h0, h4, h1, h2⟩
  · constructor
    · intro hq; exact absurd hq (h c)
    · intro hq; omega
  · constructor
    · intro hq
      refine ⟨h0, ?_⟩
      rcases Int.lt_or_le c x with hl | hl
      · exact absurd hq (h2 c hl)
      · exact hl
    · intro hq
      unfold CurQ at h1
      rcases srt_cases (p := p) (d := d) (c := x) with ⟨a1, a2, a3, a4, a5, a6⟩ | ⟨_, a2⟩
      · obtain ⟨k, hk⟩ : ∃ k : Nat, c = x + k := ⟨(c - x).toNat, by omega⟩
        have := rtime_cur_le a1 a2 k
        rw [← hk] at this
        have hpos := rtime_pos a1 (c := c) (by omega)
        rw [srt_in a1 hc]
        omega
      · omega
theorem CurIs.bd {p d t x : Int} (h : CurIs p d t x) : -1 ≤ x ∧ x ≤ 400 := by rcases h with h | h <;> omega

/-- A greater dial is graded, too. -/
theorem grade_up {p d d' fp fd m lo hi : Int} (h : GradeP p d fp fd m lo hi) (hd : d ≤ d') (h6 : d' ≤ 60) : GradeP p d' fp fd m lo hi := by
  obtain ⟨h1, h2, h3, h4, h5, h7⟩ := h
  refine ⟨by unfold RelP at *; omega, h2, h3, h4, h5, fun c hc1 hc2 hc3 => ?_⟩
  have := h7 c hc1 hc2 hc3
  have := rtime_dial (p := p) hc3 hd
  omega
theorem ldFrom_least (p fp fd m lo hi : Int) (k : Nat) (d : Int) (h : 1 ≤ d) : ∀ x, d ≤ x → x < d + k → (ldFrom p fp fd m lo hi k d = -1 ∨ x < ldFrom p fp fd m lo hi k d) → gradeB p x fp fd m lo hi = false := by
  induction k generalizing d with
  | zero => intro x h1 h2; omega
  | succ k ih =>
    intro x h1 h2 h3
    unfold ldFrom at h3
    by_cases hg : gradeB p d fp fd m lo hi = true
    · rw [if_pos hg] at h3; omega
    · rw [if_neg hg] at h3
      by_cases hx : x = d
      · subst hx; simpa using hg
      · exact ih (d + 1) (by omega) x (by omega) (by omega) h3
/-- What the law of the least dial asks. -/
theorem dial_law {p fp fd m lo hi d : Int} (h1 : 1 ≤ d) (h2 : d ≤ 60) : gradeB p d fp fd m lo hi = (decide (1 ≤ leastDial p fp fd m lo hi) && decide (leastDial p fp fd m lo hi ≤ d)) := by
  by_cases h : 1 ≤ leastDial p fp fd m lo hi ∧ leastDial p fp fd m lo hi ≤ d
  · rcases leastDial_bd p fp fd m lo hi with hb | ⟨_, _, hb⟩
    · omega
    · have := gradeB_t.2 (grade_up (gradeB_t.1 hb) h.2 h2)
      rw [this]; simp [h]
  · have := ldFrom_least p fp fd m lo hi 60 1 (by omega) d h1 (by omega) (by
      rcases leastDial_bd p fp fd m lo hi with hb | ⟨_, _, hb⟩
      · exact .inl hb
      · right; show d < leastDial p fp fd m lo hi; omega)
    rw [this]
    by_cases h3 : 1 ≤ leastDial p fp fd m lo hi
    · have h4 : ¬ leastDial p fp fd m lo hi ≤ d := by omega
      simp [h4]
    · simp [h3]

/-- Which relay trips first. -/
def TripG (xs : List R2) : Prop := xs.length ≤ 10 ∧ ∀ x ∈ xs, RelP x.a x.b
def TripW (xs : List R2) (c : Int) (i : Nat) : Prop := ∃ h : i < xs.length, 0 ≤ srt xs[i].a xs[i].b c ∧ ∀ j (hj : j < xs.length), 0 ≤ srt xs[j].a xs[j].b c → srt xs[i].a xs[i].b c ≤ srt xs[j].a xs[j].b c ∧ (i < j → srt xs[i].a xs[i].b c < srt xs[j].a xs[j].b c)
def TripIs (xs : List R2) (c x : Int) : Prop := (x = -1 ∧ (¬ TripG xs ∨ ∀ j (hj : j < xs.length), srt xs[j].a xs[j].b c < 0)) ∨ (TripG xs ∧ ∃ i : Nat, x = i ∧ TripW xs c i)
theorem TripIs.uniq {xs : List R2} {c x y : Int} (h : TripIs xs c x) (k : TripIs xs c y) : x = y := by
  rcases h with ⟨rfl, h⟩ | ⟨hg, i, rfl, hi, h1, h2⟩
  · rcases k with ⟨rfl, k⟩ | ⟨kg, j, rfl, hj, k1, k2⟩
    · rfl
    · rcases h with h | h
      · exact absurd kg h
      · have := h j hj; omega
  · rcases k with ⟨rfl, k⟩ | ⟨kg, j, rfl, hj, k1, k2⟩
    · rcases k with k | k
      · exact absurd hg k
      · have := k i hi; omega
    · have a := h2 j hj k1
      have b := k2 i hi h1
      have : i = j := by omega
      rw [this]

/-- What the law of two graded relays asks. -/
theorem grade_first {np nd fp fd m lo hi c : Int} (h : GradeP np nd fp fd m lo hi) (h1 : lo ≤ c) (h2 : c ≤ hi) (ht : 0 ≤ srt np nd c) : TripIs [⟨np, nd⟩, ⟨fp, fd⟩] c 1 := by
  obtain ⟨g1, g2, g3, g4, g5, g6⟩ := h
  rcases srt_cases (p := np) (d := nd) (c := c) with ⟨a1, a2, a3, a4, a5, a6⟩ | ⟨_, a2⟩
  · have h3 := g6 c h1 h2 a2
    have h4 := srt_in g2 (c := c) a3
    have h5 := rtime_pos g2 (c := c) (by omega)
    refine .inr ⟨⟨by simp, fun x hx => ?_⟩, 1, rfl, by simp, by show 0 ≤ srt fp fd c; omega, fun j hj hq => ?_⟩
    · simp at hx; rcases hx with rfl | rfl
      · exact g1
      · exact g2
    · rcases j with _ | _ | j
      · show srt fp fd c ≤ srt np nd c ∧ _
        exact ⟨by omega, fun h => by omega⟩
      · exact ⟨Int.le_refl _, fun h => by omega⟩
      · simp at hj; omega
  · omega
theorem grade_less {np nd fp fd m lo hi : Int} (h : GradeP np nd fp fd m lo hi) : (¬ m = 1 → gradeB np nd fp fd (m - 1) lo hi = true) ∧ (¬ lo = hi → gradeB np nd fp fd m (lo + 1) hi = true) := by
  obtain ⟨g1, g2, g3, g4, g5, g6⟩ := h
  constructor
  · intro hm
    refine gradeB_t.2 ⟨g1, g2, by omega, g4, g5, fun c h1 h2 h3 => ?_⟩
    have := g6 c h1 h2 h3; omega
  · intro hm
    exact gradeB_t.2 ⟨g1, g2, g3, by omega, g5, fun c h1 h2 h3 => g6 c (by omega) h2 h3⟩
end Go.Proofs.YtkndokcpnlbipaaDoor
