/- Dispatch: the plain law. No program is in sight here. -/
import Derived.Test.YtcpopbkcphpdfaaDoorSrtP
import Derived.Test.YtcpopbkcphpdfaaDoorUniC
namespace Go.Proofs.YtcpopbkcphpdfaaDoor
set_option linter.unusedSimpArgs false
set_option linter.unusedVariables false

def z4 : R4 := ⟨0, 0, 0, 0⟩
def uAt (xs : List R4) (k : Nat) : R4 := xs.getD k z4
def gI (ys : List Int) (k : Nat) : Int := ys.getD k 0
theorem gI_set {ys : List Int} {k j : Nat} {v : Int} (h : k < ys.length) : gI (ys.set k v) j = if k = j then v else gI ys j := by
  unfold gI
  rw [List.getD_eq_getElem?_getD, List.getElem?_set, List.getD_eq_getElem?_getD]
  by_cases e : k = j
  · subst e; simp [h]
  · simp [e]
theorem gI_get {ys : List Int} {k : Nat} (h : k < ys.length) : gI ys k = ys[k] := by
  unfold gI; rw [List.getD_eq_getElem?_getD, List.getElem?_eq_getElem h]; rfl
theorem uAt_get {xs : List R4} {k : Nat} (h : k < xs.length) : uAt xs k = xs[k] := by
  unfold uAt; rw [List.getD_eq_getElem?_getD, List.getElem?_eq_getElem h]; rfl
def sumI : List Int → Int
  | [] => 0
  | y :: ys => y + sumI ys
theorem sumI_append : ∀ (a b : List Int), sumI (a ++ b) = sumI a + sumI b
  | [], b => by simp [sumI]
  | x :: a, b => by simp only [List.cons_append, sumI, sumI_append a b]; omega
theorem sumI_set : ∀ {ys : List Int} {k : Nat} {v : Int}, k < ys.length → sumI (ys.set k v) = sumI ys + v - gI ys k
  | [], _, _, h => by simp at h
  | y :: ys, 0, v, _ => by simp [sumI, gI]; omega
  | y :: ys, k + 1, v, h => by
    have := sumI_set (ys := ys) (k := k) (v := v) (by simpa using h)
    have e : gI (y :: ys) (k + 1) = gI ys k := by simp [gI]
    simp only [List.set_cons_succ, sumI, this, e]; omega
/-- One unit gives as much more as it can. -/
def fillS (xs : List R4) (s : Int × List Int) (k : Nat) : Int × List Int :=
  (s.1 - min s.1 ((uAt xs k).b - gI s.2 k), s.2.set k (gI s.2 k + min s.1 ((uAt xs k).b - gI s.2 k)))
def fillA (xs : List R4) (ks : List Nat) (s : Int × List Int) : Int × List Int := ks.foldl (fillS xs) s
def capS (xs : List R4) (ys : List Int) : List Nat → Int
  | [] => 0
  | k :: ks => ((uAt xs k).b - gI ys k) + capS xs ys ks
theorem capS_congr {xs : List R4} {ys zs : List Int} : ∀ {ks : List Nat}, (∀ k ∈ ks, gI ys k = gI zs k) → capS xs ys ks = capS xs zs ks
  | [], _ => rfl
  | k :: ks, h => by simp only [capS]; rw [h k (by simp), capS_congr fun j hj => h j (by simp [hj])]
theorem capS_pos {xs : List R4} {ys : List Int} : ∀ {ks : List Nat}, (∀ k ∈ ks, gI ys k ≤ (uAt xs k).b) → 0 ≤ capS xs ys ks
  | [], _ => Int.le_refl _
  | k :: ks, h => by simp only [capS]; have := h k (by simp); have := capS_pos (ks := ks) fun j hj => h j (by simp [hj]); omega
theorem fillA_cons (xs : List R4) (k : Nat) (ks : List Nat) (s : Int × List Int) : fillA xs (k :: ks) s = fillA xs ks (fillS xs s k) := rfl
theorem fillA_len (xs : List R4) : ∀ (ks : List Nat) (s : Int × List Int), (fillA xs ks s).2.length = s.2.length
  | [], s => rfl
  | k :: ks, s => by rw [fillA_cons, fillA_len xs ks]; simp [fillS]
theorem fillA_far (xs : List R4) : ∀ (ks : List Nat) (s : Int × List Int) (j : Nat), (∀ k ∈ ks, k < s.2.length) → j ∉ ks → gI (fillA xs ks s).2 j = gI s.2 j
  | [], s, j, _, _ => rfl
  | k :: ks, s, j, hk, hj => by
    rw [fillA_cons, fillA_far xs ks _ j (fun q hq => by simp [fillS]; exact hk q (by simp [hq])) (fun h => hj (by simp [h]))]
    show gI (s.2.set k _) j = _
    rw [gI_set (hk k (by simp)), if_neg (fun e => hj (by simp [e]))]
/-- What is asked of a state. -/
structure FOk (xs : List R4) (ks : List Nat) (s : Int × List Int) : Prop where
  pos : 0 ≤ s.1
  lt : ∀ k ∈ ks, k < s.2.length
  le : ∀ k ∈ ks, gI s.2 k ≤ (uAt xs k).b
  nd : ks.Nodup
theorem FOk.step {xs : List R4} {k : Nat} {ks : List Nat} {s : Int × List Int} (h : FOk xs (k :: ks) s) : FOk xs ks (fillS xs s k) := by
  have hnd := List.nodup_cons.1 h.nd
  refine ⟨?_, fun j hj => by simp [fillS]; exact h.lt j (by simp [hj]), fun j hj => ?_, hnd.2⟩
  · show 0 ≤ s.1 - _; omega
  · show gI (s.2.set k _) j ≤ _
    rw [gI_set (h.lt k (by simp)), if_neg (fun e => hnd.1 (by rw [e]; exact hj))]
    exact h.le j (by simp [hj])
theorem FOk.caps {xs : List R4} {k : Nat} {ks : List Nat} {s : Int × List Int} (h : FOk xs (k :: ks) s) : capS xs (fillS xs s k).2 ks = capS xs s.2 ks := by
  have hnd := List.nodup_cons.1 h.nd
  refine capS_congr fun j hj => ?_
  show gI (s.2.set k _) j = _
  rw [gI_set (h.lt k (by simp)), if_neg (fun e => hnd.1 (by rw [e]; exact hj))]
theorem fillA_rem {xs : List R4} : ∀ {ks : List Nat} {s : Int × List Int}, FOk xs ks s → (fillA xs ks s).1 = max 0 (s.1 - capS xs s.2 ks)
  | [], s, h => by have := h.pos; simp only [fillA, capS, List.foldl_nil]; omega
  | k :: ks, s, h => by
    rw [fillA_cons, fillA_rem h.step, h.caps]
    have h1 := h.le k (by simp); have h2 := h.pos
    have h3 := capS_pos (xs := xs) (ys := s.2) (ks := ks) fun j hj => h.le j (by simp [hj])
    simp only [capS, fillS]
    omega
theorem fillA_sum {xs : List R4} : ∀ {ks : List Nat} {s : Int × List Int}, FOk xs ks s → sumI (fillA xs ks s).2 + (fillA xs ks s).1 = sumI s.2 + s.1
  | [], s, h => rfl
  | k :: ks, s, h => by
    rw [fillA_cons, fillA_sum h.step]
    have := sumI_set (ys := s.2) (k := k) (v := gI s.2 k + min s.1 ((uAt xs k).b - gI s.2 k)) (h.lt k (by simp))
    simp only [fillS]; omega
theorem fillA_bds {xs : List R4} : ∀ {ks : List Nat} {s : Int × List Int}, FOk xs ks s → ∀ j ∈ ks, gI s.2 j ≤ gI (fillA xs ks s).2 j ∧ gI (fillA xs ks s).2 j ≤ (uAt xs j).b
  | [], s, h, j, hj => by simp at hj
  | k :: ks, s, h, j, hj => by
    have hnd := List.nodup_cons.1 h.nd
    have h1 := h.le k (by simp); have h2 := h.pos
    rw [fillA_cons]
    rcases List.mem_cons.1 hj with rfl | hj
    · rw [fillA_far xs ks _ j h.step.lt hnd.1]
      have e : gI (fillS xs s j).2 j = gI s.2 j + min s.1 ((uAt xs j).b - gI s.2 j) := by
        show gI (s.2.set j _) j = _
        rw [gI_set (h.lt j (by simp)), if_pos rfl]
      rw [e]; omega
    · have := fillA_bds h.step j hj
      have e : gI (fillS xs s k).2 j = gI s.2 j := by
        show gI (s.2.set k _) j = _
        rw [gI_set (h.lt k (by simp)), if_neg (fun e => hnd.1 (by rw [e]; exact hj))]
      rw [e] at this; exact this
theorem fillA_zero {xs : List R4} : ∀ {ks : List Nat} {s : Int × List Int}, FOk xs ks s → s.1 = 0 → (fillA xs ks s) = s
  | [], s, h, h0 => rfl
  | k :: ks, s, h, h0 => by
    have h1 := h.le k (by simp)
    have e : fillS xs s k = s := by
      obtain ⟨T, ys⟩ := s
      simp only at h0 h1
      subst h0
      have hm : min (0 : Int) ((uAt xs k).b - gI ys k) = 0 := by omega
      unfold fillS
      simp only [hm]
      have : ys.set k (gI ys k + 0) = ys := by
        rw [Int.add_zero, gI_get (h.lt k (by simp))]; simp
      rw [this]; rfl
    rw [fillA_cons, e]
    have h' := h.step
    rw [e] at h'
    exact fillA_zero h' h0
/-- One more: it goes to the first unit in order that has room. -/
theorem fillA_next {xs : List R4} {key : Nat → Int} : ∀ {ks : List Nat} {T : Int} {ys : List Int}, FOk xs ks (T, ys) → ks.Pairwise (RLt key) → T < capS xs ys ks →
    ∃ b ∈ ks, gI (fillA xs ks (T, ys)).2 b < (uAt xs b).b ∧ (∀ j ∈ ks, gI (fillA xs ks (T, ys)).2 j < (uAt xs j).b → j = b ∨ RLt key b j) ∧ (∀ j ∈ ks, RLt key j b → gI (fillA xs ks (T, ys)).2 j = (uAt xs j).b) ∧ (∀ j ∈ ks, RLt key b j → gI (fillA xs ks (T, ys)).2 j = gI ys j) ∧
      (fillA xs ks (T + 1, ys)).2 = (fillA xs ks (T, ys)).2.set b (gI (fillA xs ks (T, ys)).2 b + 1)
  | [], T, ys, h, _, hT => by have := h.pos; simp [capS] at hT; simp at this; omega
  | k :: ks, T, ys, h, hs, hT => by
    have hnd := List.nodup_cons.1 h.nd
    have hsp := List.pairwise_cons.1 hs
    have h1 := h.le k (by simp); have h2 := h.pos; have hkl := h.lt k (by simp)
    simp only at h1 h2 hkl
    rw [fillA_cons, fillA_cons]
    by_cases hr : T < (uAt xs k).b - gI ys k
    · have e1 : fillS xs (T, ys) k = (0, ys.set k (gI ys k + T)) := by
        unfold fillS; simp only; rw [show min T ((uAt xs k).b - gI ys k) = T from by omega]; simp
      have e2 : fillS xs (T + 1, ys) k = (0, ys.set k (gI ys k + (T + 1))) := by
        unfold fillS; simp only; rw [show min (T + 1) ((uAt xs k).b - gI ys k) = T + 1 from by omega]; simp
      have h' := h.step
      have h'' : FOk xs ks (fillS xs (T + 1, ys) k) := FOk.step (s := (T + 1, ys)) ⟨by show 0 ≤ T + 1; omega, h.lt, h.le, h.nd⟩
      rw [fillA_zero h' (by rw [e1]), fillA_zero h'' (by rw [e2]), e1, e2]
      have g1 : gI (ys.set k (gI ys k + T)) k = gI ys k + T := by rw [gI_set hkl, if_pos rfl]
      refine ⟨k, by simp, ?_, fun j hj _ => ?_, fun j hj hjk => ?_, fun j hj hkj => ?_, ?_⟩
      · show gI (ys.set k (gI ys k + T)) k < _; rw [g1]; omega
      · rcases List.mem_cons.1 hj with rfl | hj
        · exact .inl rfl
        · exact .inr (hsp.1 j hj)
      · rcases List.mem_cons.1 hj with rfl | hj
        · exact absurd hjk (fun h => h.asymm h)
        · exact absurd (hsp.1 j hj) (fun h => h.asymm hjk)
      · rcases List.mem_cons.1 hj with rfl | hj
        · exact absurd hkj (fun h => h.asymm h)
        · show gI (ys.set k (gI ys k + T)) j = _
          rw [gI_set hkl, if_neg (fun e => hnd.1 (by rw [e]; exact hj))]
      · show ys.set k (gI ys k + (T + 1)) = (ys.set k (gI ys k + T)).set k (gI (ys.set k (gI ys k + T)) k + 1)
        rw [g1, List.set_set]; congr 1; omega
    · have e1 : fillS xs (T, ys) k = (T - ((uAt xs k).b - gI ys k), ys.set k (uAt xs k).b) := by
        unfold fillS; simp only; rw [show min T ((uAt xs k).b - gI ys k) = (uAt xs k).b - gI ys k from by omega, show gI ys k + ((uAt xs k).b - gI ys k) = (uAt xs k).b from by omega]
      have e2 : fillS xs (T + 1, ys) k = (T - ((uAt xs k).b - gI ys k) + 1, ys.set k (uAt xs k).b) := by
        unfold fillS; simp only; rw [show min (T + 1) ((uAt xs k).b - gI ys k) = (uAt xs k).b - gI ys k from by omega, show gI ys k + ((uAt xs k).b - gI ys k) = (uAt xs k).b from by omega]
        congr 1; omega
      have hcap := h.caps
      have h' := h.step
      rw [e1] at h' hcap
      rw [e1, e2]
      simp only [capS] at hT
      simp only at hcap
      obtain ⟨b, hb, hroom, hmin, hfull, hold, hset⟩ := fillA_next h' hsp.2 (by rw [hcap]; omega)
      have hfk : gI (fillA xs ks (T - ((uAt xs k).b - gI ys k), ys.set k (uAt xs k).b)).2 k = (uAt xs k).b := by
        rw [fillA_far xs ks _ k h'.lt hnd.1]
        show gI (ys.set k (uAt xs k).b) k = _
        rw [gI_set hkl, if_pos rfl]
      refine ⟨b, by simp [hb], hroom, fun j hj hlt => ?_, fun j hj hjb => ?_, fun j hj hbj => ?_, hset⟩
      · rcases List.mem_cons.1 hj with rfl | hj
        · rw [hfk] at hlt; omega
        · exact hmin j hj hlt
      · rcases List.mem_cons.1 hj with rfl | hj
        · exact hfk
        · exact hfull j hj hjb
      · rcases List.mem_cons.1 hj with rfl | hj
        · exact absurd (hsp.1 b hb) (fun h => h.asymm hbj)
        · rw [hold j hj hbj]
          show gI (ys.set k (uAt xs k).b) j = _
          rw [gI_set hkl, if_neg (fun e => hnd.1 (by rw [e]; exact hj))]
theorem fillA_full {xs : List R4} : ∀ {ks : List Nat} {T : Int} {ys : List Int}, FOk xs ks (T, ys) → capS xs ys ks ≤ T → ∀ j ∈ ks, gI (fillA xs ks (T, ys)).2 j = (uAt xs j).b
  | [], T, ys, h, _, j, hj => by simp at hj
  | k :: ks, T, ys, h, hT, j, hj => by
    have hnd := List.nodup_cons.1 h.nd
    have h1 := h.le k (by simp); have h2 := h.pos; have hkl := h.lt k (by simp)
    have h3 := capS_pos (xs := xs) (ys := ys) (ks := ks) fun j hj => h.le j (by simp [hj])
    simp only [capS] at hT
    simp only at h1 h2 hkl
    rw [fillA_cons]
    have e1 : fillS xs (T, ys) k = (T - ((uAt xs k).b - gI ys k), ys.set k (uAt xs k).b) := by
      unfold fillS; simp only; rw [show min T ((uAt xs k).b - gI ys k) = (uAt xs k).b - gI ys k from by omega, show gI ys k + ((uAt xs k).b - gI ys k) = (uAt xs k).b from by omega]
    have hcap := h.caps
    have h' := h.step
    rw [e1] at h' hcap
    rw [e1]
    simp only at hcap
    rcases List.mem_cons.1 hj with rfl | hj
    · rw [fillA_far xs ks _ j h'.lt hnd.1]
      show gI (ys.set j (uAt xs j).b) j = _
      rw [gI_set hkl, if_pos rfl]
    · exact fillA_full h' (by rw [hcap]; omega) j hj
/-- More can be given than was filled in: nothing changes. -/
theorem fillA_more {xs : List R4} : ∀ {ks : List Nat} {T T' : Int} {ys : List Int}, FOk xs ks (T, ys) → capS xs ys ks ≤ T → capS xs ys ks ≤ T' → 0 ≤ T' → (fillA xs ks (T', ys)).2 = (fillA xs ks (T, ys)).2
  | [], _, _, _, _, _, _, _ => rfl
  | k :: ks, T, T', ys, h, hT, hT', h0 => by
    have h1 := h.le k (by simp); have h2 := h.pos
    have h3 := capS_pos (xs := xs) (ys := ys) (ks := ks) fun j hj => h.le j (by simp [hj])
    have hcap := h.caps
    have h' := h.step
    simp only [capS] at hT hT'
    simp only at h1 h2
    rw [fillA_cons, fillA_cons]
    have e1 : ∀ Q, (uAt xs k).b - gI ys k ≤ Q → fillS xs (Q, ys) k = (Q - ((uAt xs k).b - gI ys k), ys.set k (uAt xs k).b) := by
      intro Q hQ
      unfold fillS; simp only; rw [show min Q ((uAt xs k).b - gI ys k) = (uAt xs k).b - gI ys k from by omega, show gI ys k + ((uAt xs k).b - gI ys k) = (uAt xs k).b from by omega]
    rw [e1 T (by omega)] at h' hcap
    rw [e1 T (by omega), e1 T' (by omega)]
    simp only at hcap
    exact fillA_more h' (by rw [hcap]; omega) (by rw [hcap]; omega) (by omega)
end Go.Proofs.YtcpopbkcphpdfaaDoor
