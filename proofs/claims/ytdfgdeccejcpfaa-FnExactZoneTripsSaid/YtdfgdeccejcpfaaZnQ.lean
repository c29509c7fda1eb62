/- Networks as data: cycles, who is alive, ways; plain laws. No program is in sight here. -/
import Derived.Test.YtdfgdeccejcpfaaZnP
namespace Go.Proofs.Ytdfgdeccejcpfaa
set_option linter.unusedSimpArgs false
set_option linter.unusedVariables false

def feedAt (bs : List R2) (i : Nat) : Int := (bs.getD i ⟨0, 0⟩).a
def loadAt (bs : List R2) (i : Nat) : Int := (bs.getD i ⟨0, 0⟩).b
def isFeed (bs : List R2) (i : Nat) : Prop := i < bs.length ∧ 0 < feedAt bs i
def aliveP (ls : List R3) (on : List Bool) (bs : List R2) (i : Nat) : Prop := ∃ f, isFeed bs f ∧ Cn ls on f i
/-- Some line that is on lies on a cycle. -/
def cycP (ls : List R3) (on : List Bool) : Prop := ∃ k, isOn on k ∧ Conn (lA ls) (lB ls) (But (isOn on) k) (lA ls k) (lB ls k)
/-- Some line that is on joins buses that the lines before it join. -/
def cycLow (ls : List R3) (on : List Bool) : Prop := ∃ k, isOn on k ∧ Conn (lA ls) (lB ls) (Low (isOn on) k) (lA ls k) (lB ls k)
theorem isOn_lt {on : List Bool} {k : Nat} (h : isOn on k) : k < on.length := by
  unfold isOn at h
  rw [List.getD_eq_getElem?_getD] at h
  rcases Nat.lt_or_ge k on.length with hk | hk
  · exact hk
  · rw [List.getElem?_eq_none hk] at h; simp at h
theorem cyc_low {ls : List R3} {on : List Bool} : cycP ls on ↔ cycLow ls on := cycle_iff (m := on.length) fun k hk => isOn_lt hk
/-- No two feeds are in one island. -/
def oneFeed (ls : List R3) (on : List Bool) (bs : List R2) : Prop := ∀ i j, isFeed bs i → isFeed bs j → Cn ls on i j → i = j

/-- The lines through which buses are fed, as the reference reckons them: -2: not fed, -1: a feed. -/
def prelB (ls : List R3) (on : List Bool) (p : List Int) (k : Nat) : List Int :=
  if on.getD k false = true ∧ -2 < p.getD (lA ls k) (-2) ∧ p.getD (lB ls k) (-2) = -2 then p.set (lB ls k) (k : Int) else p
def prelA (ls : List R3) (on : List Bool) (p : List Int) (k : Nat) : List Int :=
  if on.getD k false = true ∧ -2 < p.getD (lB ls k) (-2) ∧ p.getD (lA ls k) (-2) = -2 then p.set (lA ls k) (k : Int) else p
def prelax (ls : List R3) (on : List Bool) (p : List Int) (k : Nat) : List Int := prelA ls on (prelB ls on p k) k
def proundTo (ls : List R3) (on : List Bool) (p : List Int) : Nat → List Int
  | 0 => p
  | k + 1 => prelax ls on (proundTo ls on p k) k
def prounds (ls : List R3) (on : List Bool) (p : List Int) : Nat → List Int
  | 0 => p
  | j + 1 => proundTo ls on (prounds ls on p j) on.length
def par0 (bs : List R2) : List Int := bs.map fun x => if 0 < x.a then -1 else -2
def pars (ls : List R3) (on : List Bool) (bs : List R2) : List Int := prounds ls on (par0 bs) bs.length
def fedL (p : List Int) : List Bool := p.map fun x => decide (-2 < x)
theorem fedL_at (p : List Int) (i : Nat) : (fedL p).getD i false = decide (-2 < p.getD i (-2)) := by
  unfold fedL
  rw [List.getD_eq_getElem?_getD, List.getD_eq_getElem?_getD, List.getElem?_map]
  cases p[i]? <;> simp
theorem fedL_set {p : List Int} {i : Nat} {v : Int} (h : -2 < v) : fedL (p.set i v) = (fedL p).set i true := by
  unfold fedL; rw [List.map_set]; simp [h]
theorem ext_getD {α : Type} {s t : List α} (d : α) (hl : s.length = t.length) (h : ∀ i, s.getD i d = t.getD i d) : s = t := by
  apply List.ext_getElem hl
  intro i h1 h2
  have := h i
  rw [List.getD_eq_getElem?_getD, List.getD_eq_getElem?_getD, List.getElem?_eq_getElem h1, List.getElem?_eq_getElem h2] at this
  simpa using this
section
variable {ls : List R3} {on : List Bool} {bs : List R2} {p : List Int} {B : Nat}
theorem prelax_len (k : Nat) : (prelax ls on p k).length = p.length := by
  unfold prelax prelA prelB; split <;> split <;> simp
/-- Numbers of lines, or -1, -2. -/
def PGe (p : List Int) : Prop := ∀ i, -2 ≤ p.getD i (-2)
theorem prelax_cases (hE : EndsOk ls on B) (hg : PGe p) (k : Nat) :
    (prelax ls on p k = p ∧ (isOn on k → (-2 < p.getD (lA ls k) (-2) ↔ -2 < p.getD (lB ls k) (-2)))) ∨
    (isOn on k ∧ -2 < p.getD (lA ls k) (-2) ∧ p.getD (lB ls k) (-2) = -2 ∧ prelax ls on p k = p.set (lB ls k) k) ∨
    (isOn on k ∧ -2 < p.getD (lB ls k) (-2) ∧ p.getD (lA ls k) (-2) = -2 ∧ prelax ls on p k = p.set (lA ls k) k) := by
  by_cases hon : on.getD k false = true
  · obtain ⟨_, hA, hB, hne⟩ := hE k hon
    have gA := hg (lA ls k)
    have gB := hg (lB ls k)
    have hAq : (p.set (lB ls k) (k : Int)).getD (lA ls k) (-2) = p.getD (lA ls k) (-2) := by rw [getD_set, if_neg (fun e => hne e.1)]
    by_cases fA : -2 < p.getD (lA ls k) (-2)
    · by_cases fB : -2 < p.getD (lB ls k) (-2)
      · left
        refine ⟨?_, fun _ => ⟨fun _ => fB, fun _ => fA⟩⟩
        have e1 : prelB ls on p k = p := by unfold prelB; rw [if_neg (fun h => by have := h.2.2; omega)]
        unfold prelax; rw [e1]; unfold prelA; rw [if_neg (fun h => by have := h.2.2; omega)]
      · right; left
        have e : p.getD (lB ls k) (-2) = -2 := by omega
        refine ⟨hon, fA, e, ?_⟩
        have e1 : prelB ls on p k = p.set (lB ls k) (k : Int) := by unfold prelB; rw [if_pos ⟨hon, fA, e⟩]
        unfold prelax; rw [e1]; unfold prelA; rw [if_neg (fun h => by have := h.2.2; rw [hAq] at this; omega)]
    · have eA : p.getD (lA ls k) (-2) = -2 := by omega
      have e1 : prelB ls on p k = p := by unfold prelB; rw [if_neg (fun h => fA h.2.1)]
      by_cases fB : -2 < p.getD (lB ls k) (-2)
      · right; right
        refine ⟨hon, fB, eA, ?_⟩
        unfold prelax; rw [e1]; unfold prelA; rw [if_pos ⟨hon, fB, eA⟩]
      · left
        refine ⟨?_, fun _ => ⟨fun h => by omega, fun h => by omega⟩⟩
        unfold prelax; rw [e1]; unfold prelA; rw [if_neg (fun h => fB h.2.1)]
  · left
    refine ⟨?_, fun h => absurd h hon⟩
    have e1 : prelB ls on p k = p := by unfold prelB; rw [if_neg (fun h => hon h.1)]
    unfold prelax; rw [e1]; unfold prelA; rw [if_neg (fun h => hon h.1)]
theorem PGe.set (h : PGe p) (i : Nat) (k : Nat) : PGe (p.set i (k : Int)) := by
  intro j; rw [getD_set]; split
  · omega
  · exact h j
theorem PGe.relax (hE : EndsOk ls on B) (h : PGe p) (k : Nat) : PGe (prelax ls on p k) := by
  rcases prelax_cases hE h k with ⟨e, _⟩ | ⟨_, _, _, e⟩ | ⟨_, _, _, e⟩ <;> rw [e]
  · exact h
  · exact h.set _ _
  · exact h.set _ _
theorem prelax_fed (hE : EndsOk ls on B) (hg : PGe p) (k : Nat) : fedL (prelax ls on p k) = relax ls on (fedL p) k := by
  have hd : ∀ i, (fedL p).getD i false = true ↔ -2 < p.getD i (-2) := fun i => by rw [fedL_at]; simp
  rcases prelax_cases hE hg k with ⟨e, h⟩ | ⟨h1, h2, h3, e⟩ | ⟨h1, h2, h3, e⟩
  · rw [e]
    unfold relax
    split
    · rename_i hc
      obtain ⟨hon, hc⟩ := hc
      rw [hd, hd] at hc
      have hh := h hon
      have hA : -2 < p.getD (lA ls k) (-2) := by rcases hc with hc | hc
                                                 · exact hc
                                                 · exact hh.2 hc
      rw [set_same ((hd _).2 hA), set_same ((hd _).2 (hh.1 hA))]
    · rfl
  · rw [e, fedL_set (by omega)]
    unfold relax
    rw [if_pos ⟨h1, .inl ((hd _).2 h2)⟩, set_same ((hd _).2 h2)]
  · rw [e, fedL_set (by omega)]
    unfold relax
    rw [if_pos ⟨h1, .inr ((hd _).2 h2)⟩]
    have : ((fedL p).set (lA ls k) true).getD (lB ls k) false = true := by
      rw [getD_set]; split
      · rfl
      · exact (hd _).2 h2
    rw [set_same this]
theorem proundTo_fed (hE : EndsOk ls on B) (hg : PGe p) (m : Nat) : PGe (proundTo ls on p m) ∧ fedL (proundTo ls on p m) = roundTo ls on (fedL p) m := by
  induction m with
  | zero => exact ⟨hg, rfl⟩
  | succ m ih => exact ⟨ih.1.relax hE m, by show fedL (prelax ls on (proundTo ls on p m) m) = relax ls on (roundTo ls on (fedL p) m) m; rw [prelax_fed hE ih.1, ih.2]⟩
theorem prounds_fed (hE : EndsOk ls on B) (hl : on.length = ls.length) (hg : PGe p) (m : Nat) : PGe (prounds ls on p m) ∧ fedL (prounds ls on p m) = rounds ls on (fedL p) m := by
  induction m with
  | zero => exact ⟨hg, rfl⟩
  | succ m ih =>
    obtain ⟨h1, h2⟩ := proundTo_fed hE ih.1 on.length
    refine ⟨h1, ?_⟩
    show fedL (proundTo ls on (prounds ls on p m) on.length) = roundTo ls on (rounds ls on (fedL p) m) ls.length
    rw [h2, ih.2, hl]
end
theorem par0_at {bs : List R2} {i : Nat} : (par0 bs).getD i (-2) = if 0 < feedAt bs i then -1 else -2 := by
  unfold par0 feedAt
  rw [List.getD_eq_getElem?_getD, List.getElem?_map, List.getD_eq_getElem?_getD]
  cases bs[i]? <;> simp
theorem feedAt_lt {bs : List R2} {i : Nat} (h : 0 < feedAt bs i) : i < bs.length := by
  unfold feedAt at h
  rw [List.getD_eq_getElem?_getD] at h
  rcases Nat.lt_or_ge i bs.length with hk | hk
  · exact hk
  · rw [List.getElem?_eq_none hk] at h; simp at h
theorem rounds_closed0 {ls : List R3} {on s : List Bool} {B : Nat} (hE : EndsOk ls on B) (hs : s.length = B) : ClosedB ls on (rounds ls on s B) := by
  by_cases h : s.count true = 0
  · have hn : ∀ i, ¬ s.getD i false = true := fun i hi => by
      have hm : true ∈ s := by
        rw [List.getD_eq_getElem?_getD] at hi
        cases e : s[i]? with
        | none => rw [e] at hi; simp at hi
        | some v => rw [e] at hi; simp at hi; subst hi; exact List.mem_of_getElem? e
      have := List.count_pos_iff.2 hm
      omega
    have hc : ClosedB ls on s := fun k _ => ⟨fun h => absurd h (hn _), fun h => absurd h (hn _)⟩
    have : ∀ m, rounds ls on s m = s := fun m => by
      induction m with
      | zero => rfl
      | succ m ih => show roundTo ls on (rounds ls on s m) ls.length = s; rw [ih, roundTo_closed hc]
    rw [this]; exact hc
  · exact rounds_closed hE hs (by omega)
theorem pars_len {ls : List R3} {on : List Bool} {bs : List R2} : (pars ls on bs).length = bs.length := by
  have h1 : ∀ (p : List Int) m, (proundTo ls on p m).length = p.length := fun p m => by
    induction m with
    | zero => rfl
    | succ m ih => show (prelax ls on (proundTo ls on p m) m).length = p.length; rw [prelax_len, ih]
  have h2 : ∀ (p : List Int) m, (prounds ls on p m).length = p.length := fun p m => by
    induction m with
    | zero => rfl
    | succ m ih => show (proundTo ls on (prounds ls on p m) on.length).length = p.length; rw [h1, ih]
  unfold pars; rw [h2]; simp [par0]
/-- Who is fed, by the reference's lines. -/
theorem pars_alive {ls : List R3} {on : List Bool} {bs : List R2} (hE : EndsOk ls on bs.length) (hl : on.length = ls.length) (i : Nat) : -2 < (pars ls on bs).getD i (-2) ↔ aliveP ls on bs i := by
  have hg : PGe (par0 bs) := fun i => by rw [par0_at]; split <;> omega
  have hf := (prounds_fed hE hl hg bs.length).2
  have hd : (fedL (pars ls on bs)).getD i false = true ↔ -2 < (pars ls on bs).getD i (-2) := by rw [fedL_at]; simp
  have h0 : ∀ i, (fedL (par0 bs)).getD i false = true ↔ 0 < feedAt bs i := fun i => by rw [fedL_at, par0_at]; split <;> simp_all
  rw [← hd]
  change fedL (pars ls on bs) = _ at hf
  rw [hf]
  constructor
  · refine rounds_sound (P := fun i => aliveP ls on bs i) hE (fun k hk => ⟨fun h => ?_, fun h => ?_⟩) (fun i hi => ?_) _ i
    · obtain ⟨f, hf, hc⟩ := h; exact ⟨f, hf, hc.trans (Conn.one hk)⟩
    · obtain ⟨f, hf, hc⟩ := h; exact ⟨f, hf, hc.trans (Conn.one' hk)⟩
    · have := (h0 i).1 hi; exact ⟨i, ⟨feedAt_lt this, this⟩, .refl _⟩
  · rintro ⟨f, hf, hc⟩
    have hcl := rounds_closed0 (s := fedL (par0 bs)) hE (by simp [fedL, par0])
    exact Conn.keeps (P := fun i => (rounds ls on (fedL (par0 bs)) bs.length).getD i false = true) hc ((rounds_le (ls := ls) (on := on) bs.length).2 f ((h0 f).2 hf.2)) hcl
/-- The other end of a line. -/
def oth (ls : List R3) (k b : Nat) : Nat := if lA ls k = b then lB ls k else lA ls k
def endsAt (ls : List R3) (k b : Nat) : Prop := lA ls k = b ∨ lB ls k = b
/-- Lines that lead to the feeds, with a rank that falls on the way. -/
structure Leads (ls : List R3) (on : List Bool) (bs : List R2) (p : List Int) (rk : Nat → Nat) : Prop where
  lo : PGe p
  feed : ∀ i, 0 < feedAt bs i ↔ p.getD i (-2) = -1
  line : ∀ i, 0 ≤ p.getD i (-2) → isOn on (p.getD i (-2)).toNat ∧ endsAt ls (p.getD i (-2)).toNat i ∧ -2 < p.getD (oth ls (p.getD i (-2)).toNat i) (-2) ∧ rk (oth ls (p.getD i (-2)).toNat i) < rk i
  rank : ∀ i, -2 < p.getD i (-2) → rk i < (fedL p).count true
section
variable {ls : List R3} {on : List Bool} {bs : List R2} {p : List Int} {B : Nat}
theorem count_set {s : List Bool} {i : Nat} (hi : i < s.length) (h : s.getD i false = false) : (s.set i true).count true = s.count true + 1 := by
  induction s generalizing i with
  | nil => simp at hi
  | cons a s ih =>
    cases i with
    | zero => simp at h; subst h; simp
    | succ i =>
      have := ih (i := i) (by simpa using hi) (by simpa using h)
      simp only [List.set_cons_succ, List.count_cons, this]; omega
theorem Leads.add {rk : Nat → Nat} (h : Leads ls on bs p rk) (k i : Nat) (hon : isOn on k) (hi : i < p.length) (he : endsAt ls k i) (hne : lA ls k ≠ lB ls k) (hf : -2 < p.getD (oth ls k i) (-2)) (hn : p.getD i (-2) = -2) :
    ∃ rk', Leads ls on bs (p.set i (k : Int)) rk' := by
  have hoi : oth ls k i ≠ i := by unfold oth; unfold endsAt at he; split <;> omega
  have hcnt : (fedL (p.set i (k : Int))).count true = (fedL p).count true + 1 := by
    rw [fedL_set (by omega)]
    exact count_set (by simpa [fedL] using hi) (by rw [fedL_at, hn]; rfl)
  refine ⟨fun j => if j = i then (fedL p).count true else rk j, h.lo.set i k, fun j => ?_, fun j hj => ?_, fun j hj => ?_⟩
  · rw [getD_set]
    split
    · rename_i e; obtain ⟨rfl, _⟩ := e
      rw [h.feed j, hn]; omega
    · exact h.feed j
  · rw [getD_set] at hj ⊢
    by_cases e : j = i
    · subst e
      rw [if_pos ⟨rfl, hi⟩, Int.toNat_natCast, getD_set, if_neg (fun e => hoi e.1)]
      refine ⟨hon, he, hf, ?_⟩
      simp only [if_neg hoi, if_true]
      exact h.rank _ hf
    · rw [if_neg (fun q => e q.1)] at hj ⊢
      obtain ⟨h1, h2, h3, h4⟩ := h.line j hj
      have hno : oth ls (p.getD j (-2)).toNat j ≠ i := fun q => by rw [q, hn] at h3; omega
      rw [getD_set, if_neg (fun q => hno q.1)]
      exact ⟨h1, h2, h3, by simp only [if_neg hno, if_neg e]; exact h4⟩
  · rw [hcnt]
    rw [getD_set] at hj
    by_cases e : j = i
    · simp only [if_pos e]; omega
    · rw [if_neg (fun q => e q.1)] at hj
      simp only [if_neg e]
      have := h.rank j hj; omega
theorem oth_B {k : Nat} (hne : lA ls k ≠ lB ls k) : oth ls k (lB ls k) = lA ls k := by unfold oth; rw [if_neg hne]
theorem oth_A {k : Nat} : oth ls k (lA ls k) = lB ls k := by unfold oth; rw [if_pos rfl]
theorem Leads.relax (hE : EndsOk ls on B) (hB : p.length = B) (h : ∃ rk, Leads ls on bs p rk) (k : Nat) : ∃ rk, Leads ls on bs (prelax ls on p k) rk := by
  obtain ⟨rk, h⟩ := h
  rcases prelax_cases hE h.lo k with ⟨e, _⟩ | ⟨h1, h2, h3, e⟩ | ⟨h1, h2, h3, e⟩
  · rw [e]; exact ⟨rk, h⟩
  · obtain ⟨_, hA, hBb, hne⟩ := hE k h1
    rw [e]; exact h.add k _ h1 (by omega) (.inr rfl) hne (by rw [oth_B hne]; exact h2) h3
  · obtain ⟨_, hA, hBb, hne⟩ := hE k h1
    rw [e]; exact h.add k _ h1 (by omega) (.inl rfl) hne (by rw [oth_A]; exact h2) h3
theorem Leads.roundTo (hE : EndsOk ls on B) (hB : p.length = B) (h : ∃ rk, Leads ls on bs p rk) (m : Nat) : (proundTo ls on p m).length = B ∧ ∃ rk, Leads ls on bs (proundTo ls on p m) rk := by
  induction m with
  | zero => exact ⟨hB, h⟩
  | succ m ih => exact ⟨by show (prelax ls on (proundTo ls on p m) m).length = B; rw [prelax_len, ih.1], Leads.relax hE ih.1 ih.2 m⟩
theorem Leads.rounds (hE : EndsOk ls on B) (hB : p.length = B) (h : ∃ rk, Leads ls on bs p rk) (m : Nat) : (prounds ls on p m).length = B ∧ ∃ rk, Leads ls on bs (prounds ls on p m) rk := by
  induction m with
  | zero => exact ⟨hB, h⟩
  | succ m ih => exact Leads.roundTo hE ih.1 ih.2 _
end
theorem pars_leads {ls : List R3} {on : List Bool} {bs : List R2} (hE : EndsOk ls on bs.length) : ∃ rk, Leads ls on bs (pars ls on bs) rk := by
  refine (Leads.rounds hE (by simp [par0]) ⟨fun _ => 0, fun i => ?_, fun i => ?_, fun i hi => ?_, fun i hi => ?_⟩ bs.length).2
  · rw [par0_at]; split <;> omega
  · rw [par0_at]; split <;> omega
  · rw [par0_at] at hi; split at hi <;> omega
  · have hm : true ∈ fedL (par0 bs) := by
      have : (fedL (par0 bs)).getD i false = true := by rw [fedL_at]; simpa using hi
      rw [List.getD_eq_getElem?_getD] at this
      cases e : (fedL (par0 bs))[i]? with
      | none => rw [e] at this; simp at this
      | some v => rw [e] at this; simp at this; subst this; exact List.mem_of_getElem? e
    exact List.count_pos_iff.2 hm
/-- The way to a bus, by lines that lead to the feeds. -/
inductive WayOf (ls : List R3) (p : List Int) : Nat → List Nat → Prop
  | stop {b : Nat} : p.getD b (-2) < 0 → WayOf ls p b []
  | go {b : Nat} {W : List Nat} : 0 ≤ p.getD b (-2) → WayOf ls p (oth ls (p.getD b (-2)).toNat b) W → WayOf ls p b (W ++ [(p.getD b (-2)).toNat])
theorem WayOf.uniq {ls : List R3} {p : List Int} {b : Nat} {W V : List Nat} (h : WayOf ls p b W) (k : WayOf ls p b V) : W = V := by
  induction h generalizing V with
  | stop h => cases k with
    | stop => rfl
    | go h2 _ => omega
  | go h _ ih => cases k with
    | stop h2 => omega
    | go _ h3 => rw [ih h3]
section
variable {ls : List R3} {on : List Bool} {bs : List R2} {p : List Int} {rk : Nat → Nat}
theorem Leads.wayEx (h : Leads ls on bs p rk) (n b : Nat) (hn : rk b < n) : ∃ W, WayOf ls p b W ∧ W.length ≤ rk b := by
  induction n generalizing b with
  | zero => omega
  | succ n ih =>
    by_cases hb : 0 ≤ p.getD b (-2)
    · have h4 := (h.line b hb).2.2.2
      obtain ⟨W, hW, hl⟩ := ih (oth ls (p.getD b (-2)).toNat b) (by omega)
      exact ⟨_, .go hb hW, by simp; omega⟩
    · exact ⟨[], .stop (by omega), by simp⟩
end
noncomputable def way (ls : List R3) (p : List Int) (b : Nat) : List Nat := @dite _ (∃ W, WayOf ls p b W) (Classical.propDecidable _) (fun h => Classical.choose h) (fun _ => [])
theorem way_eq {ls : List R3} {p : List Int} {b : Nat} {W : List Nat} (h : WayOf ls p b W) : way ls p b = W := by
  unfold way
  have hx : ∃ W, WayOf ls p b W := ⟨W, h⟩
  rw [dif_pos hx]
  exact (Classical.choose_spec hx).uniq h
end Go.Proofs.Ytdfgdeccejcpfaa
