/- What flows into a zone: the program's sums; plain laws. No program is in sight here. -/
import Derived.Test.YtdfgdeccejcpfaaZnR
namespace Go.Proofs.Ytdfgdeccejcpfaa
set_option linter.unusedSimpArgs false
set_option linter.unusedVariables false

/-- The program's tree: for each bus its feed and its line, and all fed buses in their order. -/
structure TreeP (ls : List R3) (on : List Bool) (bs : List R2) (F P : List Int) (O : List Nat) : Prop where
  lenF : F.length = bs.length
  lenP : P.length = bs.length
  fed : ∀ i, 0 ≤ F.getD i (-1) ↔ aliveP ls on bs i
  own : ∀ i, 0 ≤ F.getD i (-1) → isFeed bs (F.getD i (-1)).toNat ∧ Cn ls on (F.getD i (-1)).toNat i
  root : ∀ i, 0 ≤ F.getD i (-1) → P.getD i (-1) < 0 → F.getD i (-1) = i
  line : ∀ i, 0 ≤ P.getD i (-1) → 0 ≤ F.getD i (-1) ∧ isOn on (P.getD i (-1)).toNat ∧ endsAt ls (P.getD i (-1)).toNat i ∧ F.getD (oth ls (P.getD i (-1)).toNat i) (-1) = F.getD i (-1)
  ord : ∀ i, i ∈ O ↔ 0 ≤ F.getD i (-1)
  nodup : O.Nodup
  before : ∀ A b C, O = A ++ b :: C → 0 ≤ P.getD b (-1) → oth ls (P.getD b (-1)).toNat b ∈ A
/-- One bus more in the program's pass from the ends to the feeds. -/
def fstep (ls : List R3) (bs : List R2) (P : List Int) (s : List Int × List Int) (b : Nat) : List Int × List Int :=
  let w := s.2.set b (s.2.getD b 0 + loadAt bs b)
  if 0 ≤ P.getD b (-1) then (s.1.set (P.getD b (-1)).toNat (w.getD b 0), w.set (oth ls (P.getD b (-1)).toNat b) (w.getD (oth ls (P.getD b (-1)).toNat b) 0 + w.getD b 0)) else (s.1, w)
def fpass (ls : List R3) (bs : List R2) (P : List Int) : List Nat → List Int × List Int
  | [] => (List.replicate ls.length 0, List.replicate bs.length 0)
  | b :: D => fstep ls bs P (fpass ls bs P D) b
section
variable {ls : List R3} {on : List Bool} {bs : List R2} {F P : List Int} {O : List Nat} {B : Nat}
theorem fpass_len (D : List Nat) : (fpass ls bs P D).1.length = ls.length ∧ (fpass ls bs P D).2.length = bs.length := by
  induction D with
  | nil => simp [fpass]
  | cons b D ih => simp only [fpass, fstep]; split <;> simp [ih]
theorem TreeP.fedlt (h : TreeP ls on bs F P O) {i : Nat} (hi : 0 ≤ F.getD i (-1)) : i < bs.length := by
  rw [← h.lenF]
  rcases Nat.lt_or_ge i F.length with hk | hk
  · exact hk
  · rw [List.getD_eq_getElem?_getD, List.getElem?_eq_none hk] at hi; simp at hi
/-- What holds of the sums behind the buses D. -/
structure Passed (ls : List R3) (bs : List R2) (P : List Int) (D : List Nat) (s : List Int × List Int) : Prop where
  want : ∀ x, x < bs.length → s.2.getD x 0 = f01 (x ∈ D) * loadAt bs x + sumN (fun c => f01 (c ∈ D ∧ 0 ≤ P.getD c (-1) ∧ oth ls (P.getD c (-1)).toNat c = x) * s.2.getD c 0) bs.length
  flow : ∀ c, c ∈ D → 0 ≤ P.getD c (-1) → s.1.getD (P.getD c (-1)).toNat 0 = s.2.getD c 0
  low : ∀ x, 0 ≤ s.2.getD x 0 ∧ s.2.getD x 0 ≤ 1000 * 4 ^ D.length
theorem TreeP.inj (hE : EndsOk ls on B) (h : TreeP ls on bs F P O) {c d : Nat} (hc : 0 ≤ P.getD c (-1)) (e : P.getD d (-1) = P.getD c (-1)) : d = c := by
  obtain ⟨c0, c1, c2, c3⟩ := h.line c hc
  obtain ⟨d0, d1, d2, d3⟩ := h.line d (by omega)
  have hpos : ∀ b, 0 ≤ F.getD b (-1) → 0 ≤ P.getD b (-1) → ∃ A C, O = A ++ b :: C ∧ oth ls (P.getD b (-1)).toNat b ∈ A := by
    intro b hb hp
    obtain ⟨A, C, he⟩ := List.append_of_mem ((h.ord b).2 hb)
    exact ⟨A, C, he, h.before A b C he hp⟩
  obtain ⟨A, C, e1, m1⟩ := hpos c c0 hc
  obtain ⟨A', C', e2, m2⟩ := hpos d d0 (by omega)
  rw [e] at d1 d2 m2
  obtain ⟨_, _, _, hne⟩ := hE _ c1
  obtain ⟨q1, q2, q3, q4⟩ := oth_end c2 hne
  rcases q4 d d2 with q | q
  · exact q
  · exfalso
    rw [q, q3] at m2
    rw [q] at e2
    -- d = oth c stands before c in O, and c before d
    have nd := h.nodup
    obtain ⟨A1, A2, rfl⟩ := List.append_of_mem m1
    obtain ⟨B1, B2, rfl⟩ := List.append_of_mem m2
    rw [e1] at e2 nd
    generalize oth ls (P.getD c (-1)).toNat c = y at *
    -- A1 ++ y :: A2 ++ c :: C = B1 ++ c :: B2 ++ y :: C'
    have i1 : (A1 ++ y :: A2 ++ c :: C).idxOf y = A1.length := by
      have : y ∉ A1 := fun hm => by
        rw [List.append_assoc] at nd
        exact (List.nodup_append.1 nd).2.2 y hm y (by simp) rfl
      rw [List.append_assoc, List.idxOf_append, if_neg this]; simp
    have i2 : (A1 ++ y :: A2 ++ c :: C).idxOf c = A1.length + 1 + A2.length := by
      have : c ∉ A1 ++ y :: A2 := fun hm => (List.nodup_append.1 nd).2.2 c hm c (by simp) rfl
      rw [List.idxOf_append, if_neg this]; simp; omega
    have nd2 := nd
    rw [e2] at nd2 i1 i2
    have i3 : (B1 ++ c :: B2 ++ y :: C').idxOf c = B1.length := by
      have : c ∉ B1 := fun hm => by
        rw [List.append_assoc] at nd2
        exact (List.nodup_append.1 nd2).2.2 c hm c (by simp) rfl
      rw [List.append_assoc, List.idxOf_append, if_neg this]; simp
    have i4 : (B1 ++ c :: B2 ++ y :: C').idxOf y = B1.length + 1 + B2.length := by
      have : y ∉ B1 ++ c :: B2 := fun hm => (List.nodup_append.1 nd2).2.2 y hm y (by simp) rfl
      rw [List.idxOf_append, if_neg this]; simp; omega
    omega
theorem pow4_le {n : Nat} (hn : n ≤ 8) : (4 : Int) ^ n ≤ 65536 := by
  rcases n with _ | _ | _ | _ | _ | _ | _ | _ | _ | n <;> first | decide | omega
theorem pow4_pos (n : Nat) : (1 : Int) ≤ 4 ^ n := by
  induction n with
  | zero => decide
  | succ n ih => rw [Int.pow_succ]; omega
theorem Passed.step (hE : EndsOk ls on bs.length) (h : TreeP ls on bs F P O) (hl : ∀ x, 0 ≤ loadAt bs x ∧ loadAt bs x ≤ 999) (hlen : on.length = ls.length) {A D : List Nat} {b : Nat} (e : O = A ++ b :: D) {s : List Int × List Int} (hs1 : s.1.length = ls.length) (hs2 : s.2.length = bs.length) (hp : Passed ls bs P D s) :
    Passed ls bs P (b :: D) (fstep ls bs P s b) := by
  have nd := h.nodup
  rw [e] at nd
  have hbD : b ∉ D := fun hm => by
    have := (List.nodup_append.1 nd).2.1
    exact (List.nodup_cons.1 this).1 hm
  have hbO : b ∈ O := by rw [e]; simp
  have hbF := (h.ord b).1 hbO
  have hbB := h.fedlt hbF
  have hmemO : ∀ c, c ∈ D → c ∈ O := fun c hc => by rw [e]; simp [hc]
  have hp4 := pow4_pos D.length
  have hp5 : (4 : Int) ^ (b :: D).length = 4 ^ D.length * 4 := by rw [List.length_cons, Int.pow_succ]
  -- a bus behind b in the order has its other end not at a place that is turned
  generalize hw : s.2.set b (s.2.getD b 0 + loadAt bs b) = w
  have w1 : ∀ x, w.getD x 0 = if x = b then s.2.getD b 0 + loadAt bs b else s.2.getD x 0 := fun x => by
    rw [← hw, getD_set]
    by_cases q : x = b
    · rw [if_pos ⟨q, by omega⟩, if_pos q]
    · rw [if_neg (fun t => q t.1), if_neg q]
  have hwl : w.length = bs.length := by rw [← hw]; simp [hs2]
  have hlb := hl b
  by_cases hP : 0 ≤ P.getD b (-1)
  · obtain ⟨c0, c1, c2, c3⟩ := h.line b hP
    have haA := h.before A b D e hP
    obtain ⟨_, _, _, hne⟩ := hE _ c1
    obtain ⟨q1, q2, q3, q4⟩ := oth_end c2 hne
    have hPl := (hE _ c1).1
    have hF2 : fstep ls bs P s b = (s.1.set (P.getD b (-1)).toNat (w.getD b 0), w.set (oth ls (P.getD b (-1)).toNat b) (w.getD (oth ls (P.getD b (-1)).toNat b) 0 + w.getD b 0)) := by
      unfold fstep; simp only; rw [hw, if_pos hP]
    have hinj : ∀ c, P.getD c (-1) = P.getD b (-1) → c = b := fun c hc => h.inj hE hP hc
    generalize hl2 : (P.getD b (-1)).toNat = l at *
    generalize ha : oth ls l b = a at *
    have haD : a ∉ D := fun hm => (List.nodup_append.1 nd).2.2 a haA a (by simp [hm]) rfl
    have haB : a < bs.length := h.fedlt (by rw [c3]; exact c0)
    have w2 : ∀ x, (w.set a (w.getD a 0 + w.getD b 0)).getD x 0 = if x = a then s.2.getD a 0 + (s.2.getD b 0 + loadAt bs b) else if x = b then s.2.getD b 0 + loadAt bs b else s.2.getD x 0 := fun x => by
      rw [getD_set]
      by_cases q : x = a
      · rw [if_pos ⟨q, by omega⟩, if_pos q, w1, w1, if_neg q2, if_pos rfl]
      · rw [if_neg (fun t => q t.1), if_neg q, w1]
    rw [hF2]
    refine ⟨fun x hx => ?_, fun c hc hpc => ?_, fun x => ?_⟩
    · show (w.set a (w.getD a 0 + w.getD b 0)).getD x 0 = f01 (x ∈ b :: D) * loadAt bs x + sumN (fun c => f01 (c ∈ b :: D ∧ 0 ≤ P.getD c (-1) ∧ oth ls (P.getD c (-1)).toNat c = x) * (w.set a (w.getD a 0 + w.getD b 0)).getD c 0) bs.length
      have hsum : sumN (fun c => f01 (c ∈ b :: D ∧ 0 ≤ P.getD c (-1) ∧ oth ls (P.getD c (-1)).toNat c = x) * (w.set a (w.getD a 0 + w.getD b 0)).getD c 0) bs.length
          = sumN (fun c => f01 (c ∈ D ∧ 0 ≤ P.getD c (-1) ∧ oth ls (P.getD c (-1)).toNat c = x) * s.2.getD c 0 + (if c = b then f01 (a = x) * (s.2.getD b 0 + loadAt bs b) else 0)) bs.length := by
        refine sumN_congr fun c hc => ?_
        by_cases q : c = b
        · subst q
          rw [if_pos rfl, f01_f (P := c ∈ D ∧ _) (fun t => hbD t.1), Int.zero_mul, Int.zero_add, w2, if_neg (fun t => q2 t.symm), if_pos rfl]
          congr 1
          refine f01_congr ⟨fun t => ?_, fun t => ⟨by simp, hP, ?_⟩⟩
          · have := t.2.2; rw [hl2, ha] at this; exact this
          · rw [hl2, ha]; exact t
        · rw [if_neg q, Int.add_zero]
          have e1 : (c ∈ b :: D ∧ 0 ≤ P.getD c (-1) ∧ oth ls (P.getD c (-1)).toNat c = x) ↔ (c ∈ D ∧ 0 ≤ P.getD c (-1) ∧ oth ls (P.getD c (-1)).toNat c = x) := by simp [q]
          rw [f01_congr e1]
          rcases f01_cases (c ∈ D ∧ 0 ≤ P.getD c (-1) ∧ oth ls (P.getD c (-1)).toNat c = x) with ⟨t1, t2⟩ | ⟨t1, t2⟩
          · rw [w2, if_neg (fun (t : c = a) => haD (t ▸ t1.1)), if_neg q]
          · rw [t2, Int.zero_mul, Int.zero_mul]
      rw [hsum, sumN_add, sumN_one _ hbB, w2]
      have hI := hp.want x hx
      generalize sumN (fun c => f01 (c ∈ D ∧ 0 ≤ P.getD c (-1) ∧ oth ls (P.getD c (-1)).toNat c = x) * s.2.getD c 0) bs.length = S at *
      by_cases qa : x = a
      · rw [if_pos qa, f01_t qa.symm]
        rw [f01_f (by rw [qa]; exact haD)] at hI
        rw [f01_f (P := x ∈ b :: D) (by rw [qa]; simp [haD]; exact fun t => q2 t)]
        rw [← qa]; omega
      · rw [if_neg qa, f01_f (P := a = x) (fun t => qa t.symm)]
        by_cases qb : x = b
        · rw [if_pos qb, f01_t (P := x ∈ b :: D) (by rw [qb]; simp)]
          rw [f01_f (by rw [qb]; exact hbD)] at hI
          rw [← qb]; omega
        · rw [if_neg qb, hI]
          have : f01 (x ∈ b :: D) = f01 (x ∈ D) := f01_congr (by simp [qb])
          rw [this]; omega
    · show (s.1.set l (w.getD b 0)).getD (P.getD c (-1)).toNat 0 = (w.set a (w.getD a 0 + w.getD b 0)).getD c 0
      rcases List.mem_cons.1 hc with q | q
      · subst q
        rw [hl2, getD_set, if_pos ⟨rfl, by omega⟩, w2, if_neg (fun t => q2 t.symm), if_pos rfl, w1, if_pos rfl]
      · have hcb : c ≠ b := fun t => hbD (t ▸ q)
        have hcl : (P.getD c (-1)).toNat ≠ l := fun t => hcb (hinj c (by omega))
        rw [getD_set, if_neg (fun t => hcl t.1), w2, if_neg (fun (t : c = a) => haD (t ▸ q)), if_neg hcb]
        exact hp.flow c q hpc
    · show 0 ≤ (w.set a (w.getD a 0 + w.getD b 0)).getD x 0 ∧ _
      have g1 := hp.low a
      have g2 := hp.low b
      have g3 := hp.low x
      rw [hp5]
      show 0 ≤ (w.set a (w.getD a 0 + w.getD b 0)).getD x 0 ∧ (w.set a (w.getD a 0 + w.getD b 0)).getD x 0 ≤ 1000 * (4 ^ D.length * 4)
      rw [w2]
      generalize (4 : Int) ^ D.length = K at *
      split
      · omega
      · split <;> omega
  · have hF2 : fstep ls bs P s b = (s.1, w) := by unfold fstep; simp only; rw [hw, if_neg hP]
    rw [hF2]
    refine ⟨fun x hx => ?_, fun c hc hpc => ?_, fun x => ?_⟩
    · show w.getD x 0 = f01 (x ∈ b :: D) * loadAt bs x + sumN (fun c => f01 (c ∈ b :: D ∧ 0 ≤ P.getD c (-1) ∧ oth ls (P.getD c (-1)).toNat c = x) * w.getD c 0) bs.length
      have hsum : sumN (fun c => f01 (c ∈ b :: D ∧ 0 ≤ P.getD c (-1) ∧ oth ls (P.getD c (-1)).toNat c = x) * w.getD c 0) bs.length
          = sumN (fun c => f01 (c ∈ D ∧ 0 ≤ P.getD c (-1) ∧ oth ls (P.getD c (-1)).toNat c = x) * s.2.getD c 0) bs.length := by
        refine sumN_congr fun c hc => ?_
        by_cases q : c = b
        · subst q
          rw [f01_f (P := c ∈ D ∧ _) (fun t => hbD t.1), f01_f (P := c ∈ c :: D ∧ _) (fun t => hP t.2.1), Int.zero_mul, Int.zero_mul]
        · have e1 : (c ∈ b :: D ∧ 0 ≤ P.getD c (-1) ∧ oth ls (P.getD c (-1)).toNat c = x) ↔ (c ∈ D ∧ 0 ≤ P.getD c (-1) ∧ oth ls (P.getD c (-1)).toNat c = x) := by simp [q]
          rw [f01_congr e1, w1, if_neg q]
      rw [hsum, w1]
      have hI := hp.want x hx
      generalize sumN (fun c => f01 (c ∈ D ∧ 0 ≤ P.getD c (-1) ∧ oth ls (P.getD c (-1)).toNat c = x) * s.2.getD c 0) bs.length = S at *
      by_cases qb : x = b
      · rw [if_pos qb, f01_t (P := x ∈ b :: D) (by rw [qb]; simp)]
        rw [f01_f (by rw [qb]; exact hbD)] at hI
        rw [← qb]; omega
      · rw [if_neg qb, hI]
        have : f01 (x ∈ b :: D) = f01 (x ∈ D) := f01_congr (by simp [qb])
        rw [this]
    · show s.1.getD (P.getD c (-1)).toNat 0 = w.getD c 0
      rcases List.mem_cons.1 hc with q | q
      · subst q; exact absurd hpc hP
      · rw [w1, if_neg (fun (t : c = b) => hbD (t ▸ q))]
        exact hp.flow c q hpc
    · have g2 := hp.low b
      have g3 := hp.low x
      rw [hp5]
      show 0 ≤ w.getD x 0 ∧ w.getD x 0 ≤ 1000 * (4 ^ D.length * 4)
      rw [w1]
      generalize (4 : Int) ^ D.length = K at *
      split <;> omega
theorem TreeP.passed (hE : EndsOk ls on bs.length) (h : TreeP ls on bs F P O) (hl : ∀ x, 0 ≤ loadAt bs x ∧ loadAt bs x ≤ 999) (hlen : on.length = ls.length) (A D : List Nat) (e : O = A ++ D) : Passed ls bs P D (fpass ls bs P D) := by
  induction D generalizing A with
  | nil =>
    refine ⟨fun x hx => ?_, fun c hc => by simp at hc, fun x => ?_⟩
    · have : ∀ c, ((List.replicate bs.length (0 : Int)).getD c 0) = 0 := fun c => by rw [List.getD_eq_getElem?_getD, List.getElem?_replicate]; split <;> rfl
      show (List.replicate bs.length (0 : Int)).getD x 0 = _ + sumN (fun c => _ * (List.replicate bs.length (0 : Int)).getD c 0) bs.length
      rw [this, f01_f (by simp), sumN_none (fun c _ => by rw [this, Int.mul_zero])]; omega
    · have : (List.replicate bs.length (0 : Int)).getD x 0 = 0 := by rw [List.getD_eq_getElem?_getD, List.getElem?_replicate]; split <;> rfl
      show 0 ≤ (List.replicate bs.length (0 : Int)).getD x 0 ∧ _
      show 0 ≤ (List.replicate bs.length (0 : Int)).getD x 0 ∧ (List.replicate bs.length (0 : Int)).getD x 0 ≤ 1000 * 4 ^ ([] : List Nat).length
      rw [this]; decide
  | cons b D ih =>
    have hl1 := fpass_len (ls := ls) (bs := bs) (P := P) D
    exact Passed.step hE h hl hlen e hl1.1 hl1.2 (ih (A ++ [b]) (by rw [e]; simp))
/-- What a bus gives, as the program reckons. -/
def given (bs : List R2) (F : List Int) (x : Nat) : Int := sumN (fun k => if F.getD k (-1) = x then loadAt bs k else 0) bs.length
/-- One bus's part of the program's sum. -/
noncomputable def ipart (ls : List R3) (bs : List R2) (F P : List Int) (fl : List Int) (z : Nat → Prop) (k : Nat) : Int :=
  f01 (z k) * given bs F k + (if 0 ≤ P.getD k (-1) then (f01 (z k) - f01 (z (oth ls (P.getD k (-1)).toNat k))) * fl.getD (P.getD k (-1)).toNat 0 else 0)
theorem TreeP.gen (hE : EndsOk ls on bs.length) (h : TreeP ls on bs F P O) {s : List Int × List Int} (hp : Passed ls bs P O s) (z : Nat → Prop) :
    sumN (fun x => f01 (z x ∧ 0 ≤ F.getD x (-1)) * loadAt bs x) bs.length = sumN (fun x => f01 (z x ∧ 0 ≤ F.getD x (-1)) * s.2.getD x 0) bs.length - sumN (fun c => f01 (0 ≤ P.getD c (-1) ∧ z (oth ls (P.getD c (-1)).toNat c)) * s.2.getD c 0) bs.length := by
  have e1 : ∀ x, x < bs.length → f01 (z x ∧ 0 ≤ F.getD x (-1)) * loadAt bs x = f01 (z x ∧ 0 ≤ F.getD x (-1)) * s.2.getD x 0 - sumN (fun c => f01 (z x ∧ 0 ≤ P.getD c (-1) ∧ oth ls (P.getD c (-1)).toNat c = x) * s.2.getD c 0) bs.length := by
    intro x hx
    rcases f01_cases (z x ∧ 0 ≤ F.getD x (-1)) with ⟨t1, t2⟩ | ⟨t1, t2⟩
    · rw [t2, Int.one_mul, Int.one_mul]
      have hI := hp.want x hx
      rw [f01_t ((h.ord x).2 t1.2), Int.one_mul] at hI
      have : sumN (fun c => f01 (c ∈ O ∧ 0 ≤ P.getD c (-1) ∧ oth ls (P.getD c (-1)).toNat c = x) * s.2.getD c 0) bs.length = sumN (fun c => f01 (z x ∧ 0 ≤ P.getD c (-1) ∧ oth ls (P.getD c (-1)).toNat c = x) * s.2.getD c 0) bs.length := by
        refine sumN_congr fun c _ => ?_
        congr 1
        exact f01_congr ⟨fun t => ⟨t1.1, t.2⟩, fun t => ⟨(h.ord c).2 (h.line c t.2.1).1, t.2⟩⟩
      omega
    · rw [t2, Int.zero_mul, Int.zero_mul, sumN_none (fun c _ => ?_)]
      · rfl
      · rw [f01_f (fun t => t1 ⟨t.1, by rw [← t.2.2, (h.line c t.2.1).2.2.2]; exact (h.line c t.2.1).1⟩), Int.zero_mul]
  rw [sumN_congr e1, sumN_sub, sumN_swap]
  congr 1
  refine sumN_congr fun c hc => ?_
  by_cases hP : 0 ≤ P.getD c (-1)
  · have hoB : oth ls (P.getD c (-1)).toNat c < bs.length := h.fedlt (by rw [(h.line c hP).2.2.2]; exact (h.line c hP).1)
    rw [sumN_pick hoB (fun i _ hi => by rw [f01_f (fun t => hi t.2.2.symm), Int.zero_mul])]
    congr 1
    exact f01_congr ⟨fun t => ⟨hP, t.1⟩, fun t => ⟨t.2, hP, rfl⟩⟩
  · rw [f01_f (fun t => hP t.1), Int.zero_mul]
    exact sumN_none fun i _ => by rw [f01_f (fun t => hP t.2.1), Int.zero_mul]
theorem TreeP.given_eq (hE : EndsOk ls on bs.length) (h : TreeP ls on bs F P O) {s : List Int × List Int} (hp : Passed ls bs P O s) (x : Nat) (hx : x < bs.length) :
    given bs F x = f01 (0 ≤ F.getD x (-1) ∧ P.getD x (-1) < 0) * s.2.getD x 0 := by
  have hg := h.gen hE hp (fun k => F.getD k (-1) = x)
  have e1 : given bs F x = sumN (fun k => f01 (F.getD k (-1) = x ∧ 0 ≤ F.getD k (-1)) * loadAt bs k) bs.length := by
    refine sumN_congr fun k _ => ?_
    split
    · rename_i e; rw [f01_t ⟨e, by omega⟩, Int.one_mul]
    · rename_i e; rw [f01_f (fun t => e t.1), Int.zero_mul]
  rw [e1, hg, ← sumN_sub]
  by_cases hr : 0 ≤ F.getD x (-1) ∧ P.getD x (-1) < 0
  · rw [f01_t hr, Int.one_mul]
    have hrx := h.root x hr.1 hr.2
    rw [sumN_pick hx (fun k hk hne => ?_)]
    · rw [f01_t ⟨hrx, hr.1⟩, f01_f (fun t => by have := t.1; omega)]; omega
    · by_cases hP : 0 ≤ P.getD k (-1)
      · obtain ⟨a1, a2, a3, a4⟩ := h.line k hP
        have : f01 (F.getD k (-1) = x ∧ 0 ≤ F.getD k (-1)) = f01 (0 ≤ P.getD k (-1) ∧ F.getD (oth ls (P.getD k (-1)).toNat k) (-1) = x) := f01_congr ⟨fun t => ⟨hP, by rw [a4]; exact t.1⟩, fun t => ⟨by rw [← a4]; exact t.2, a1⟩⟩
        rw [this]; omega
      · rw [f01_f (P := 0 ≤ P.getD k (-1) ∧ _) (fun t => hP t.1), f01_f (fun t => hne (by have := h.root k t.2 (by omega); have := t.1; omega))]; omega
  · rw [f01_f hr, Int.zero_mul]
    refine sumN_none fun k hk => ?_
    by_cases hP : 0 ≤ P.getD k (-1)
    · obtain ⟨a1, a2, a3, a4⟩ := h.line k hP
      have : f01 (F.getD k (-1) = x ∧ 0 ≤ F.getD k (-1)) = f01 (0 ≤ P.getD k (-1) ∧ F.getD (oth ls (P.getD k (-1)).toNat k) (-1) = x) := f01_congr ⟨fun t => ⟨hP, by rw [a4]; exact t.1⟩, fun t => ⟨by rw [← a4]; exact t.2, a1⟩⟩
      rw [this]; omega
    · rw [f01_f (P := 0 ≤ P.getD k (-1) ∧ _) (fun t => hP t.1), f01_f (fun t => ?_)]
      · omega
      · have e2 := h.root k t.2 (by omega)
        have : k = x := by have := t.1; omega
        subst this
        exact hr ⟨t.2, by omega⟩
/-- The program's sum over all buses is what the zone's buses want. -/
theorem TreeP.sum_eq (hE : EndsOk ls on bs.length) (h : TreeP ls on bs F P O) (hl : ∀ x, 0 ≤ loadAt bs x ∧ loadAt bs x ≤ 999) (hlen : on.length = ls.length) (z : Nat → Prop) :
    sumN (ipart ls bs F P (fpass ls bs P O).1 z) bs.length = zsum ls on bs z := by
  have hp := h.passed hE hl hlen [] O rfl
  generalize fpass ls bs P O = s at *
  have hg := h.gen hE hp z
  have e0 : zsum ls on bs z = sumN (fun x => f01 (z x ∧ 0 ≤ F.getD x (-1)) * loadAt bs x) bs.length := by
    refine sumN_congr fun x _ => ?_
    rw [Int.mul_comm, f01_congr (P := z x ∧ aliveP ls on bs x) (Q := z x ∧ 0 ≤ F.getD x (-1)) ⟨fun t => ⟨t.1, (h.fed x).2 t.2⟩, fun t => ⟨t.1, (h.fed x).1 t.2⟩⟩]
  rw [e0, hg, ← sumN_sub]
  refine sumN_congr fun x hx => ?_
  unfold ipart
  rw [h.given_eq hE hp x hx]
  by_cases hP : 0 ≤ P.getD x (-1)
  · obtain ⟨a1, a2, a3, a4⟩ := h.line x hP
    rw [if_pos hP, f01_f (P := 0 ≤ F.getD x (-1) ∧ _) (fun t => by have := t.2; omega), hp.flow x ((h.ord x).2 a1) hP,
      f01_congr (P := z x ∧ 0 ≤ F.getD x (-1)) (Q := z x) ⟨fun t => t.1, fun t => ⟨t, a1⟩⟩,
      f01_congr (P := 0 ≤ P.getD x (-1) ∧ z (oth ls (P.getD x (-1)).toNat x)) (Q := z (oth ls (P.getD x (-1)).toNat x)) ⟨fun t => t.2, fun t => ⟨hP, t⟩⟩, Int.sub_mul]
    omega
  · rw [if_neg hP, f01_f (P := 0 ≤ P.getD x (-1) ∧ _) (fun t => hP t.1)]
    rcases f01_cases (z x) with ⟨t1, t2⟩ | ⟨t1, t2⟩ <;> rcases f01_cases (0 ≤ F.getD x (-1)) with ⟨u1, u2⟩ | ⟨u1, u2⟩
    · rw [t2, f01_t (P := 0 ≤ F.getD x (-1) ∧ P.getD x (-1) < 0) ⟨u1, by omega⟩, f01_t (P := z x ∧ _) ⟨t1, u1⟩]; omega
    · rw [t2, f01_f (P := 0 ≤ F.getD x (-1) ∧ P.getD x (-1) < 0) (fun t => u1 t.1), f01_f (P := z x ∧ _) (fun t => u1 t.2)]; omega
    · rw [t2, f01_f (P := z x ∧ _) (fun t => t1 t.1)]; omega
    · rw [t2, f01_f (P := z x ∧ _) (fun t => t1 t.1)]; omega
end
end Go.Proofs.Ytdfgdeccejcpfaa
