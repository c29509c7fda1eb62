/- Zones and lists of buses: sums, validity; plain laws. No program is in sight here. -/
import Derived.Test.YtdfgdeccejcpfaaZnT
import Derived.Test.YtdfgdeccejcpfaaOth
namespace Go.Proofs.Ytdfgdeccejcpfaa
set_option linter.unusedSimpArgs false
set_option linter.unusedVariables false

noncomputable def pB (P : Prop) : Bool := @decide P (Classical.propDecidable P)
theorem pB_t {P : Prop} : pB P = true ↔ P := by unfold pB; exact @decide_eq_true_iff P (Classical.propDecidable P)
theorem pB_f {P : Prop} : pB P = false ↔ ¬ P := by unfold pB; exact @decide_eq_false_iff_not P (Classical.propDecidable P)
theorem pB_true {P : Prop} (h : P) : pB P = true := pB_t.2 h
theorem pB_false {P : Prop} (h : ¬ P) : pB P = false := pB_f.2 h

/-- Buses of a list, in ascending order. -/
def ZoneP (B : Int) (zs : List Int) : Prop := ∀ j, j < zs.length → 0 ≤ zs.getD j 0 ∧ zs.getD j 0 < B ∧ (0 < j → zs.getD (j - 1) 0 < zs.getD j 0)
instance (B : Int) (zs : List Int) : Decidable (ZoneP B zs) := by unfold ZoneP; infer_instance
def zoneV (B : Int) (zs : List Int) : Bool := decide (ZoneP B zs)
theorem zoneV_t {B : Int} {zs : List Int} : zoneV B zs = true ↔ ZoneP B zs := by simp [zoneV]
theorem zoneV_f {B : Int} {zs : List Int} : zoneV B zs = false ↔ ¬ ZoneP B zs := by simp [zoneV]
theorem getD_lt {α : Type} {l : List α} {i : Nat} (h : i < l.length) (d : α) : l.getD i d = l[i] := by
  rw [List.getD_eq_getElem?_getD, List.getElem?_eq_getElem h]; rfl
theorem ZoneP.asc {B : Int} {zs : List Int} (h : ZoneP B zs) {i j : Nat} (hij : i < j) (hj : j < zs.length) : zs.getD i 0 < zs.getD j 0 := by
  induction j with
  | zero => omega
  | succ j ih =>
    have h1 := (h (j + 1) hj).2.2 (by omega)
    simp only [Nat.add_sub_cancel] at h1
    by_cases e : i = j
    · subst e; exact h1
    · have := ih (by omega) (by omega); omega
theorem ZoneP.ge {B : Int} {zs : List Int} (h : ZoneP B zs) : ∀ j, j < zs.length → (j : Int) ≤ zs.getD j 0
  | 0, hj => (h 0 hj).1
  | j + 1, hj => by
    have := h.ge j (by omega)
    have := h.asc (i := j) (j := j + 1) (by omega) hj
    omega
theorem ZoneP.short {B : Int} {zs : List Int} (h : ZoneP B zs) (hB : 0 ≤ B) : (zs.length : Int) ≤ B := by
  by_cases e : zs.length = 0
  · omega
  · have := h.ge (zs.length - 1) (by omega)
    have := (h (zs.length - 1) (by omega)).2.1
    omega
theorem ZoneP.mem {B : Int} {zs : List Int} (h : ZoneP B zs) {x : Int} (hx : x ∈ zs) : 0 ≤ x ∧ x < B := by
  obtain ⟨i, hi, rfl⟩ := List.mem_iff_getElem.1 hx
  have := h i hi
  rw [getD_lt hi] at this
  exact ⟨this.1, this.2.1⟩

/-- The sum over the first i buses of a list. -/
def zrun (g : Nat → Int) (zs : List Int) : Nat → Int
  | 0 => 0
  | i + 1 => zrun g zs i + g (zs.getD i 0).toNat
theorem zrun_eq {B : Nat} {zs : List Int} (h : ZoneP B zs) (g : Nat → Int) (i : Nat) (hi : i ≤ zs.length) : zrun g zs i = sumN (fun x => g x * f01 ((x : Int) ∈ zs.take i)) B := by
  induction i with
  | zero => rw [sumN_none (fun x _ => by rw [f01_f (by simp), Int.mul_zero])]; rfl
  | succ i ih =>
    have hlt : i < zs.length := by omega
    have hz := h i hlt
    rw [getD_lt hlt] at hz
    show zrun g zs i + g (zs.getD i 0).toNat = _
    rw [ih (by omega), getD_lt hlt]
    have e : ∀ x, x < B → g x * f01 ((x : Int) ∈ zs.take (i + 1)) = g x * f01 ((x : Int) ∈ zs.take i) + (if x = zs[i].toNat then g zs[i].toNat else 0) := by
      intro x _
      have ht : zs.take (i + 1) = zs.take i ++ [zs[i]] := by rw [List.take_add_one, List.getElem?_eq_getElem hlt]; rfl
      rw [ht]
      by_cases q : x = zs[i].toNat
      · have hx : (x : Int) = zs[i] := by omega
        rw [if_pos q, f01_t (by rw [hx]; exact List.mem_append_right _ (List.mem_singleton.2 rfl)), f01_f (fun hm => ?_), Int.mul_one, Int.mul_zero, q]
        · omega
        · obtain ⟨j, hj, e2⟩ := List.mem_iff_getElem.1 hm
          rw [List.length_take] at hj
          have := h.asc (i := j) (j := i) (by omega) hlt
          rw [getD_lt (by omega), getD_lt hlt] at this
          rw [List.getElem_take] at e2
          omega
      · rw [if_neg q, Int.add_zero]
        congr 1
        refine f01_congr ⟨fun hm => ?_, fun hm => List.mem_append_left _ hm⟩
        rcases List.mem_append.1 hm with hm | hm
        · exact hm
        · simp at hm; exact absurd (by omega) q
    rw [sumN_congr e, sumN_add, sumN_one _ (by omega)]
theorem zrun_all {B : Nat} {zs : List Int} (h : ZoneP B zs) (g : Nat → Int) : zrun g zs zs.length = sumN (fun x => g x * f01 ((x : Int) ∈ zs)) B := by
  rw [zrun_eq h g _ (Nat.le_refl _), List.take_length]
theorem zrun_bd {zs : List Int} {g : Nat → Int} {c : Int} (hg : ∀ x, 0 ≤ g x ∧ g x ≤ c) (i : Nat) : 0 ≤ zrun g zs i ∧ zrun g zs i ≤ c * i := by
  induction i with
  | zero => simp [zrun]
  | succ i ih =>
    have := hg (zs.getD i 0).toNat
    show 0 ≤ zrun g zs i + g _ ∧ zrun g zs i + g _ ≤ c * ((i + 1 : Nat) : Int)
    rw [Int.natCast_add, Int.mul_add]
    simp only [Int.cast_ofNat_Int, Int.mul_one]
    omega

/-- The numbers below n with a property. -/
def idxL (p : Nat → Bool) : Nat → List Int
  | 0 => []
  | n + 1 => idxL p n ++ if p n then [(n : Int)] else []
theorem idxL_mem {p : Nat → Bool} {n : Nat} {x : Int} : x ∈ idxL p n ↔ ∃ k : Nat, x = k ∧ k < n ∧ p k = true := by
  induction n with
  | zero => simp [idxL]
  | succ n ih =>
    show x ∈ idxL p n ++ (if p n then [(n : Int)] else []) ↔ _
    rw [List.mem_append, ih]
    constructor
    · rintro (⟨k, h1, h2, h3⟩ | h)
      · exact ⟨k, h1, by omega, h3⟩
      · split at h
        · rename_i hp; simp at h; exact ⟨n, h, by omega, hp⟩
        · simp at h
    · rintro ⟨k, h1, h2, h3⟩
      by_cases e : k = n
      · subst e; right; rw [if_pos h3]; simp [h1]
      · left; exact ⟨k, h1, by omega, h3⟩
theorem idxL_len (p : Nat → Bool) (n : Nat) : (idxL p n).length ≤ n := by
  induction n with
  | zero => simp [idxL]
  | succ n ih =>
    show (idxL p n ++ (if p n then [(n : Int)] else [])).length ≤ n + 1
    rw [List.length_append]; split <;> simp <;> omega
theorem idxL_zone (p : Nat → Bool) (n : Nat) : ZoneP n (idxL p n) := by
  induction n with
  | zero => intro j hj; simp [idxL] at hj
  | succ n ih =>
    intro j hj
    show 0 ≤ (idxL p n ++ (if p n then [(n : Int)] else [])).getD j 0 ∧ (idxL p n ++ (if p n then [(n : Int)] else [])).getD j 0 < ((n + 1 : Nat) : Int) ∧ (0 < j → (idxL p n ++ (if p n then [(n : Int)] else [])).getD (j - 1) 0 < (idxL p n ++ (if p n then [(n : Int)] else [])).getD j 0)
    have hl : ∀ i, i < (idxL p n).length → (idxL p n ++ (if p n then [(n : Int)] else [])).getD i 0 = (idxL p n).getD i 0 := fun i hi => by
      rw [List.getD_eq_getElem?_getD, List.getD_eq_getElem?_getD, List.getElem?_append_left hi]
    by_cases hlt : j < (idxL p n).length
    · have := ih j hlt
      rw [hl j hlt, hl (j - 1) (by omega)]
      exact ⟨this.1, by omega, this.2.2⟩
    · change j < (idxL p n ++ (if p n then [(n : Int)] else [])).length at hj
      rw [List.length_append] at hj
      by_cases hp : p n = true
      · rw [if_pos hp] at hj hl ⊢
        have hje : j = (idxL p n).length := by simp at hj; omega
        have hv : (idxL p n ++ [(n : Int)]).getD j 0 = n := by
          rw [List.getD_eq_getElem?_getD, hje, List.getElem?_append_right (Nat.le_refl _)]; simp
        rw [hv]
        refine ⟨by omega, by omega, fun h0 => ?_⟩
        rw [hl (j - 1) (by omega)]
        exact (ih (j - 1) (by omega)).2.1
      · rw [if_neg hp] at hj; simp at hj; omega
theorem idxL_congr {p q : Nat → Bool} {n : Nat} (h : ∀ k, k < n → p k = q k) : idxL p n = idxL q n := by
  induction n with
  | zero => rfl
  | succ n ih =>
    show idxL p n ++ _ = idxL q n ++ _
    rw [ih (fun k hk => h k (by omega)), h n (by omega)]

def BusOk (x : R2) : Prop := 0 ≤ x.a ∧ x.a ≤ 999 ∧ 0 ≤ x.b ∧ x.b ≤ 999
instance (x : R2) : Decidable (BusOk x) := by unfold BusOk; infer_instance
def BusP (B : Int) (bs : List R2) : Prop := (bs.length : Int) = B ∧ ∀ x ∈ bs, BusOk x
instance (B : Int) (bs : List R2) : Decidable (BusP B bs) := by unfold BusP; infer_instance
def FedP (B : Int) (ls : List R3) (on : List Bool) (bs : List R2) : Prop := (NetP B ls ∧ on.length = ls.length) ∧ BusP B bs
instance (B : Int) (ls : List R3) (on : List Bool) (bs : List R2) : Decidable (FedP B ls on bs) := by unfold FedP; infer_instance
def stV (B : Int) (ls : List R3) (on : List Bool) : Bool := decide (NetP B ls ∧ on.length = ls.length)
theorem stV_t {B : Int} {ls : List R3} {on : List Bool} : stV B ls on = true ↔ (NetP B ls ∧ on.length = ls.length) := by simp [stV]
theorem stV_f {B : Int} {ls : List R3} {on : List Bool} : stV B ls on = false ↔ ¬ (NetP B ls ∧ on.length = ls.length) := by rw [← stV_t]; simp
def busV (B : Int) (ls : List R3) (bs : List R2) : Bool := decide (NetP B ls ∧ BusP B bs)
theorem busV_t {B : Int} {ls : List R3} {bs : List R2} : busV B ls bs = true ↔ (NetP B ls ∧ BusP B bs) := by simp [busV]
theorem busV_f {B : Int} {ls : List R3} {bs : List R2} : busV B ls bs = false ↔ ¬ (NetP B ls ∧ BusP B bs) := by rw [← busV_t]; simp
def fedV (B : Int) (ls : List R3) (on : List Bool) (bs : List R2) : Bool := decide (FedP B ls on bs)
theorem fedV_t {B : Int} {ls : List R3} {on : List Bool} {bs : List R2} : fedV B ls on bs = true ↔ FedP B ls on bs := by simp [fedV]
theorem fedV_f {B : Int} {ls : List R3} {on : List Bool} {bs : List R2} : fedV B ls on bs = false ↔ ¬ FedP B ls on bs := by rw [← fedV_t]; simp
def RadP (B : Int) (ls : List R3) (on : List Bool) (bs : List R2) : Prop := FedP B ls on bs ∧ ¬ cycP ls on ∧ oneFeed ls on bs
/-- What both ZoneLoad and ZoneFlow return. -/
noncomputable def zlV (B : Int) (ls : List R3) (on : List Bool) (bs : List R2) (zs : List Int) : Int := @ite _ (RadP B ls on bs ∧ ZoneP B zs) (Classical.propDecidable _) (zsum ls on bs (fun i => (i : Int) ∈ zs)) (-1)
theorem zlV_t {B : Int} {ls : List R3} {on : List Bool} {bs : List R2} {zs : List Int} (h : RadP B ls on bs ∧ ZoneP B zs) : zlV B ls on bs zs = zsum ls on bs (fun i => (i : Int) ∈ zs) := by unfold zlV; rw [if_pos h]
theorem zlV_f {B : Int} {ls : List R3} {on : List Bool} {bs : List R2} {zs : List Int} (h : ¬ (RadP B ls on bs ∧ ZoneP B zs)) : zlV B ls on bs zs = -1 := by unfold zlV; rw [if_neg h]
section
variable {B : Int} {ls : List R3} {on : List Bool} {bs : List R2} {zs : List Int}
theorem lA_at {k : Nat} (hk : k < ls.length) : lA ls k = ls[k].a.toNat := by unfold lA; rw [getD_lt hk]
theorem lB_at {k : Nat} (hk : k < ls.length) : lB ls k = ls[k].b.toNat := by unfold lB; rw [getD_lt hk]
theorem NetP.line (h : NetP B ls) {k : Nat} (hk : k < ls.length) : ls[k].a = (lA ls k : Int) ∧ ls[k].b = (lB ls k : Int) ∧ (lA ls k : Int) < B ∧ (lB ls k : Int) < B ∧ lA ls k ≠ lB ls k := by
  have := h.2.2.2 _ (List.getElem_mem hk)
  unfold LineOk at this
  rw [lA_at hk, lB_at hk]
  omega
theorem NetP.ends (h : NetP B ls) (hl : on.length = ls.length) {n : Nat} (hn : (n : Int) = B) : EndsOk ls on n := by
  intro k hk
  have hkl : k < ls.length := by rw [← hl]; exact isOn_lt hk
  have := h.line hkl
  omega
theorem FedP.ends (h : FedP B ls on bs) : EndsOk ls on bs.length := h.1.1.ends h.1.2 h.2.1
theorem FedP.load (h : FedP B ls on bs) (x : Nat) : 0 ≤ loadAt bs x ∧ loadAt bs x ≤ 999 := by
  unfold loadAt
  rcases Nat.lt_or_ge x bs.length with hx | hx
  · rw [getD_lt hx]; exact ⟨(h.2.2 _ (List.getElem_mem hx)).2.2.1, (h.2.2 _ (List.getElem_mem hx)).2.2.2⟩
  · rw [List.getD_eq_getElem?_getD, List.getElem?_eq_none hx]; simp
theorem FedP.feedb (h : FedP B ls on bs) (x : Nat) : 0 ≤ feedAt bs x ∧ feedAt bs x ≤ 999 := by
  unfold feedAt
  rcases Nat.lt_or_ge x bs.length with hx | hx
  · rw [getD_lt hx]; exact ⟨(h.2.2 _ (List.getElem_mem hx)).1, (h.2.2 _ (List.getElem_mem hx)).2.1⟩
  · rw [List.getD_eq_getElem?_getD, List.getElem?_eq_none hx]; simp
theorem FedP.lens (h : FedP B ls on bs) : bs.length ≤ 8 ∧ 1 ≤ bs.length ∧ ls.length ≤ 10 ∧ on.length = ls.length ∧ (bs.length : Int) = B := by
  have := h.1.1.1; have := h.1.1.2.1; have := h.1.1.2.2.1; have := h.1.2; have := h.2.1
  omega
/-- The program's 'other'. -/
theorem other_eq (h : NetP B ls) {k : Nat} (hk : k < ls.length) (b : Nat) : (endsAt ls k b → otherOf ls[k] b = (oth ls k b : Int)) ∧ (¬ endsAt ls k b → otherOf ls[k] b = -1) := by
  obtain ⟨h1, h2, h3, h4, h5⟩ := h.line hk
  unfold otherOf endsAt oth
  rw [h1, h2]
  constructor
  · intro he
    by_cases q : lA ls k = b
    · rw [if_pos (by omega), if_pos q]
    · rw [if_neg (by omega), if_pos (by omega), if_neg q]
  · intro he
    rw [if_neg (by omega), if_neg (by omega)]
theorem zsum_nonneg (h : FedP B ls on bs) (z : Nat → Prop) : 0 ≤ zsum ls on bs z ∧ zsum ls on bs z ≤ 7992 := by
  have hb : ∀ i, 0 ≤ loadAt bs i * f01 (z i ∧ aliveP ls on bs i) ∧ loadAt bs i * f01 (z i ∧ aliveP ls on bs i) ≤ 999 := fun i => by
    have := h.load i
    rcases f01_cases (z i ∧ aliveP ls on bs i) with ⟨_, e⟩ | ⟨_, e⟩ <;> rw [e] <;> omega
  have h1 := sumN_nonneg (n := bs.length) (fun i _ => (hb i).1)
  have h2 := sumN_le (n := bs.length) (fun i _ => (hb i).2)
  have := h.lens
  unfold zsum
  omega
theorem islF_pos (h : FedP B ls on bs) {k : Nat} : 0 < islF ls on bs k ↔ aliveP ls on bs k := by
  have hnn : ∀ j, 0 ≤ feedAt bs j * f01 (Cn ls on k j) := fun j => by
    have := (h.feedb j).1
    rcases f01_cases (Cn ls on k j) with ⟨_, e⟩ | ⟨_, e⟩ <;> rw [e] <;> omega
  have hpos : ∀ n, 0 < sumN (fun j => feedAt bs j * f01 (Cn ls on k j)) n ↔ ∃ j, j < n ∧ 0 < feedAt bs j ∧ Cn ls on k j := by
    intro n
    induction n with
    | zero => simp [sumN]
    | succ n ih =>
      show 0 < sumN (fun j => feedAt bs j * f01 (Cn ls on k j)) n + feedAt bs n * f01 (Cn ls on k n) ↔ _
      have h0 := sumN_nonneg (n := n) (fun i _ => hnn i)
      have hn0 := hnn n
      constructor
      · intro q
        by_cases q1 : 0 < sumN (fun j => feedAt bs j * f01 (Cn ls on k j)) n
        · obtain ⟨j, j1, j2⟩ := ih.1 q1; exact ⟨j, by omega, j2⟩
        · rcases f01_cases (Cn ls on k n) with ⟨c1, c2⟩ | ⟨c1, c2⟩
          · rw [c2] at q; exact ⟨n, by omega, by omega, c1⟩
          · rw [c2] at q; omega
      · rintro ⟨j, j1, j2, j3⟩
        by_cases e : j = n
        · subst e; rw [f01_t j3]; omega
        · have := ih.2 ⟨j, by omega, j2, j3⟩; omega
  unfold islF
  rw [hpos]
  constructor
  · rintro ⟨j, j1, j2, j3⟩; exact ⟨j, ⟨j1, j2⟩, j3.symm⟩
  · rintro ⟨j, ⟨j1, j2⟩, j3⟩; exact ⟨j, j1, j2, j3.symm⟩
end
end Go.Proofs.Ytdfgdeccejcpfaa
