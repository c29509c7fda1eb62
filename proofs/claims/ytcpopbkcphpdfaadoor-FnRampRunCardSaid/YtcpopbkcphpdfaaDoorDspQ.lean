/- Dispatch: the plain law, second part: the least cost, the next unit. No program is in sight here. -/
import Derived.Test.YtcpopbkcphpdfaaDoorDspP
namespace Go.Proofs.YtcpopbkcphpdfaaDoor
set_option linter.unusedSimpArgs false
set_option linter.unusedVariables false

def keyU (xs : List R4) (k : Nat) : Int := (uAt xs k).c
def ordU (xs : List R4) : List Nat := ordO (keyU xs) xs.length
def leasts (xs : List R4) : List Int := xs.map (·.a)
def mosts (xs : List R4) : List Int := xs.map (·.b)
def sumA (xs : List R4) : Int := sumI (leasts xs)
def sumB (xs : List R4) : Int := sumI (mosts xs)
def dst (xs : List R4) (T : Int) : List Int := (fillA xs (ordU xs) (T, leasts xs)).2
@[simp] theorem leasts_len (xs : List R4) : (leasts xs).length = xs.length := by simp [leasts]
@[simp] theorem mosts_len (xs : List R4) : (mosts xs).length = xs.length := by simp [mosts]
theorem gI_leasts {xs : List R4} {k : Nat} (h : k < xs.length) : gI (leasts xs) k = (uAt xs k).a := by
  rw [gI_get (by simpa using h), uAt_get h]; simp [leasts]
theorem gI_mosts {xs : List R4} {k : Nat} (h : k < xs.length) : gI (mosts xs) k = (uAt xs k).b := by
  rw [gI_get (by simpa using h), uAt_get h]; simp [mosts]
theorem capS_perm {xs : List R4} {ys : List Int} {ks js : List Nat} (h : ks.Perm js) : capS xs ys ks = capS xs ys js := by
  induction h with
  | nil => rfl
  | cons a _ ih => simp only [capS, ih]
  | swap a b l => simp only [capS]; omega
  | trans _ _ ih1 ih2 => exact ih1.trans ih2
theorem capS_append {xs : List R4} {ys : List Int} : ∀ {ks js : List Nat}, capS xs ys (ks ++ js) = capS xs ys ks + capS xs ys js
  | [], js => by simp [capS]
  | k :: ks, js => by simp only [List.cons_append, capS, capS_append (ks := ks)]; omega
theorem sumI_take_succ {ys : List Int} {n : Nat} (h : n < ys.length) : sumI (ys.take (n + 1)) = sumI (ys.take n) + gI ys n := by
  rw [List.take_succ_eq_append_getElem h, sumI_append, gI_get h]; simp [sumI]
theorem capS_range {xs : List R4} : ∀ {n : Nat}, n ≤ xs.length → capS xs (leasts xs) (List.range n) = sumI ((mosts xs).take n) - sumI ((leasts xs).take n)
  | 0, _ => by simp [capS, sumI]
  | n + 1, h => by
    have h1 : n < xs.length := by omega
    rw [List.range_succ, capS_append, capS_range (by omega), sumI_take_succ (by simpa using h1), sumI_take_succ (by simpa using h1), gI_mosts h1]
    simp only [capS]; omega
theorem capS_ord (xs : List R4) : capS xs (leasts xs) (ordU xs) = sumB xs - sumA xs := by
  unfold ordU
  rw [capS_perm (ordO_perm _ _), capS_range (Nat.le_refl _), List.take_of_length_le (by simp), List.take_of_length_le (by simp)]; rfl
theorem UnisP.at {xs : List R4} (h : UnisP xs) {k : Nat} (hk : k < xs.length) : UniOk (uAt xs k) := by rw [uAt_get hk]; exact h.2 _ (List.getElem_mem _)
theorem sum_bd {m : Int} : ∀ {ys : List Int}, (∀ y ∈ ys, 0 ≤ y ∧ y ≤ m) → 0 ≤ sumI ys ∧ sumI ys ≤ m * ys.length
  | [], _ => by simp [sumI]
  | y :: ys, h => by
    have h1 := h y (by simp)
    have h2 := sum_bd (ys := ys) fun z hz => h z (by simp [hz])
    have e : m * ((y :: ys).length : Int) = m * (ys.length : Int) + m := by rw [List.length_cons]; push_cast; rw [Int.mul_add]; omega
    simp only [sumI]; rw [e]; omega
theorem UnisP.sums {xs : List R4} (h : UnisP xs) : 0 ≤ sumA xs ∧ sumA xs ≤ 5994 ∧ 0 ≤ sumB xs ∧ sumB xs ≤ 5994 := by
  have h1 := sum_bd (m := 999) (ys := leasts xs) (fun y hy => by
    obtain ⟨x, hx, rfl⟩ := List.mem_map.1 hy; have := h.2 x hx; unfold UniOk at this; omega)
  have h2 := sum_bd (m := 999) (ys := mosts xs) (fun y hy => by
    obtain ⟨x, hx, rfl⟩ := List.mem_map.1 hy; have := h.2 x hx; unfold UniOk at this; omega)
  have := h.1
  rw [leasts_len] at h1; rw [mosts_len] at h2
  unfold sumA sumB; omega
theorem fokU {xs : List R4} {T : Int} (h : UnisP xs) (hT : 0 ≤ T) : FOk xs (ordU xs) (T, leasts xs) := by
  refine ⟨hT, fun k hk => ?_, fun k hk => ?_, ordO_nodup _ _⟩
  · simp; exact ordO_mem.1 hk
  · have hk' := ordO_mem.1 hk
    rw [gI_leasts hk']; have := h.at hk'; unfold UniOk at this; omega
theorem dst_len (xs : List R4) (T : Int) : (dst xs T).length = xs.length := by unfold dst; rw [fillA_len]; simp
theorem dst_zero {xs : List R4} (h : UnisP xs) : dst xs 0 = leasts xs := by unfold dst; rw [fillA_zero (fokU h (Int.le_refl _)) rfl]
theorem dst_bds {xs : List R4} {T : Int} (h : UnisP xs) (hT : 0 ≤ T) {k : Nat} (hk : k < xs.length) : (uAt xs k).a ≤ gI (dst xs T) k ∧ gI (dst xs T) k ≤ (uAt xs k).b := by
  have := fillA_bds (fokU h hT) k (ordO_mem.2 hk)
  rw [gI_leasts hk] at this
  exact this
theorem dst_outs {xs : List R4} {T : Int} (h : UnisP xs) (hT : 0 ≤ T) : OutsP xs (dst xs T) := by
  refine ⟨h, dst_len _ _, fun i h1 h2 => ?_⟩
  have := dst_bds h hT h1
  rw [uAt_get h1, gI_get h2] at this; exact this
theorem dst_sum {xs : List R4} {T : Int} (h : UnisP xs) (hT : 0 ≤ T) (hc : T ≤ sumB xs - sumA xs) : sumI (dst xs T) = sumA xs + T := by
  have h1 := fillA_sum (fokU h hT)
  have h2 := fillA_rem (fokU h hT)
  rw [capS_ord] at h2
  unfold dst sumA
  simp only at h1 h2
  unfold sumB sumA at h2 hc
  omega
/-- The reference's next unit. -/
def nextF (xs : List R4) (ys : List Int) : Nat → Int
  | 0 => -1
  | k + 1 => if gI ys k < (uAt xs k).b ∧ (nextF xs ys k < 0 ∨ (uAt xs k).c < (uAt xs (nextF xs ys k).toNat).c) then (k : Int) else nextF xs ys k
theorem nextF_spec (xs : List R4) (ys : List Int) : ∀ n, (nextF xs ys n = -1 ∧ ∀ k, k < n → (uAt xs k).b ≤ gI ys k) ∨ (∃ b : Nat, nextF xs ys n = (b : Int) ∧ b < n ∧ gI ys b < (uAt xs b).b ∧ ∀ k, k < n → gI ys k < (uAt xs k).b → k = b ∨ RLt (keyU xs) b k)
  | 0 => .inl ⟨rfl, fun k hk => absurd hk (by omega)⟩
  | n + 1 => by
    rcases nextF_spec xs ys n with ⟨e, h⟩ | ⟨b, e, hb, hr, hm⟩
    · by_cases hc : gI ys n < (uAt xs n).b
      · right
        refine ⟨n, ?_, by omega, hc, fun k hk hkr => ?_⟩
        · simp only [nextF, e]; rw [if_pos ⟨hc, .inl (by omega)⟩]
        · by_cases ek : k = n
          · exact .inl ek
          · have := h k (by omega); omega
      · left
        refine ⟨?_, fun k hk => ?_⟩
        · simp only [nextF, e]; rw [if_neg (fun h => hc h.1)]
        · by_cases ek : k = n
          · subst ek; omega
          · exact h k (by omega)
    · by_cases hc : gI ys n < (uAt xs n).b ∧ (uAt xs n).c < (uAt xs b).c
      · right
        refine ⟨n, ?_, by omega, hc.1, fun k hk hkr => ?_⟩
        · simp only [nextF, e, Int.toNat_natCast]; rw [if_pos ⟨hc.1, .inr hc.2⟩]
        · by_cases ek : k = n
          · exact .inl ek
          · right
            rcases hm k (by omega) hkr with rfl | h
            · unfold RLt keyU; omega
            · unfold RLt keyU at h ⊢; omega
      · right
        refine ⟨b, ?_, by omega, hr, fun k hk hkr => ?_⟩
        · simp only [nextF, e, Int.toNat_natCast]; rw [if_neg (fun h => hc ⟨h.1, by rcases h.2 with h | h <;> omega⟩)]
        · by_cases ek : k = n
          · subst ek
            right; unfold RLt keyU
            have : ¬ (uAt xs k).c < (uAt xs b).c := fun h => hc ⟨hkr, h⟩
            omega
          · exact hm k (by omega) hkr
theorem next_dst {xs : List R4} {T : Int} (h : UnisP xs) (hT : 0 ≤ T) (hlt : T < sumB xs - sumA xs) :
    ∃ b : Nat, nextF xs (dst xs T) xs.length = (b : Int) ∧ b < xs.length ∧ gI (dst xs T) b < (uAt xs b).b ∧ dst xs (T + 1) = (dst xs T).set b (gI (dst xs T) b + 1) ∧
      (∀ j, j < xs.length → (uAt xs j).c < (uAt xs b).c → gI (dst xs T) j = (uAt xs j).b) ∧ (∀ j, j < xs.length → (uAt xs b).c < (uAt xs j).c → gI (dst xs T) j = (uAt xs j).a) := by
  obtain ⟨b, hb, hroom, hmin, hfull, hold, hset⟩ := fillA_next (key := keyU xs) (fokU h hT) (ordO_sorted _ _) (by rw [capS_ord]; exact hlt)
  have hbl := ordO_mem.1 hb
  refine ⟨b, ?_, hbl, hroom, hset, fun j hj hc => hfull j (ordO_mem.2 hj) (.inl hc), fun j hj hc => ?_⟩
  · rcases nextF_spec xs (dst xs T) xs.length with ⟨e, hn⟩ | ⟨b', e, hb', hr', hm'⟩
    · have := hn b hbl
      have h2 : gI (dst xs T) b < (uAt xs b).b := hroom
      omega
    · rw [e]
      rcases hm' b hbl hroom with rfl | h1
      · rfl
      · rcases hmin b' (ordO_mem.2 hb') hr' with rfl | h2
        · rfl
        · exact absurd h2 (fun h2 => h1.asymm h2)
  · have := hold j (ordO_mem.2 hj) (.inl hc)
    rw [gI_leasts hj] at this; exact this
theorem next_full {xs : List R4} {T : Int} (h : UnisP xs) (hT : 0 ≤ T) (hge : sumB xs - sumA xs ≤ T) : nextF xs (dst xs T) xs.length = -1 ∧ ∀ j, j < xs.length → gI (dst xs T) j = (uAt xs j).b := by
  have hf : ∀ j, j < xs.length → gI (dst xs T) j = (uAt xs j).b := fun j hj => fillA_full (fokU h hT) (by rw [capS_ord]; exact hge) j (ordO_mem.2 hj)
  refine ⟨?_, hf⟩
  rcases nextF_spec xs (dst xs T) xs.length with ⟨e, hn⟩ | ⟨b', e, hb', hr', hm'⟩
  · exact e
  · have := hf b' hb'; omega
/-- What Dispatch returns. -/
def dispO (xs : List R4) (L : Int) : Option (List Int) := if unisV xs = true ∧ sumA xs ≤ L ∧ L ≤ sumB xs then some (dst xs (L - sumA xs)) else none
theorem dispO_some {xs : List R4} {L : Int} {ys : List Int} (h : dispO xs L = some ys) : UnisP xs ∧ sumA xs ≤ L ∧ L ≤ sumB xs ∧ ys = dst xs (L - sumA xs) := by
  unfold dispO at h
  split at h
  · rename_i hc
    injection h with h
    exact ⟨unisV_t.1 hc.1, hc.2.1, hc.2.2, h.symm⟩
  · cases h
theorem dispO_none {xs : List R4} {L : Int} (h : dispO xs L = none) : ¬ (UnisP xs ∧ sumA xs ≤ L ∧ L ≤ sumB xs) := by
  unfold dispO at h
  split at h
  · cases h
  · rename_i hc
    exact fun hh => hc ⟨unisV_t.2 hh.1, hh.2⟩
theorem dispO_mk {xs : List R4} {L : Int} (h : UnisP xs) (h1 : sumA xs ≤ L) (h2 : L ≤ sumB xs) : dispO xs L = some (dst xs (L - sumA xs)) := by
  unfold dispO; rw [if_pos ⟨unisV_t.2 h, h1, h2⟩]
theorem dispO_mkn {xs : List R4} {L : Int} (h : ¬ (UnisP xs ∧ sumA xs ≤ L ∧ L ≤ sumB xs)) : dispO xs L = none := by
  unfold dispO; rw [if_neg (fun hh => h ⟨unisV_t.1 hh.1, hh.2⟩)]
theorem dispO_len (xs : List R4) (L : Int) : ((dispO xs L).getD []).length ≤ 6 := by
  cases h : dispO xs L with
  | none => simp
  | some ys =>
    obtain ⟨hu, _, _, rfl⟩ := dispO_some h
    simp only [Option.getD_some]; rw [dst_len]; exact hu.1
theorem dispO_outs {xs : List R4} {L : Int} {ys : List Int} (h : dispO xs L = some ys) : OutsP xs ys ∧ sumI ys = L := by
  obtain ⟨hu, h1, h2, rfl⟩ := dispO_some h
  exact ⟨dst_outs hu (by omega), by rw [dst_sum hu (by omega) (by omega)]; omega⟩
theorem costSum_set : ∀ {xs : List R4} {ys : List Int} {b : Nat} {v : Int}, ys.length = xs.length → b < xs.length → costSum xs (ys.set b v) = costSum xs ys + (uAt xs b).c * (v - gI ys b)
  | [], _, _, _, _, h => by simp at h
  | x :: xs, [], _, _, h, _ => by simp at h
  | x :: xs, y :: ys, 0, v, _, _ => by simp [costSum, uAt, gI, Int.mul_sub]; omega
  | x :: xs, y :: ys, b + 1, v, h, hb => by
    have := costSum_set (xs := xs) (ys := ys) (b := b) (v := v) (by simpa using h) (by simpa using hb)
    have e1 : uAt (x :: xs) (b + 1) = uAt xs b := by simp [uAt]
    have e2 : gI (y :: ys) (b + 1) = gI ys b := by simp [gI]
    simp only [List.set_cons_succ, costSum, this, e1, e2]; omega
theorem cost_opt {lam : Int} : ∀ {xs : List R4} {ys zs : List Int}, ys.length = xs.length → zs.length = xs.length → (∀ k, k < xs.length → 0 ≤ ((uAt xs k).c - lam) * (gI ys k - gI zs k)) → costSum xs zs - lam * sumI zs ≤ costSum xs ys - lam * sumI ys
  | [], [], [], _, _, _ => by simp [costSum, sumI]
  | [], _ :: _, _, h, _, _ => by simp at h
  | [], [], _ :: _, _, h, _ => by simp at h
  | x :: xs, [], _, h, _, _ => by simp at h
  | x :: xs, _ :: _, [], _, h, _ => by simp at h
  | x :: xs, y :: ys, z :: zs, h1, h2, hk => by
    have h0 := hk 0 (by simp)
    have ht := cost_opt (lam := lam) (xs := xs) (ys := ys) (zs := zs) (by simpa using h1) (by simpa using h2) (fun k hkk => by
      have := hk (k + 1) (by simpa using hkk)
      simpa [uAt, gI] using this)
    simp only [uAt, gI, List.getD_cons_zero] at h0
    rw [Int.sub_mul, Int.mul_sub, Int.mul_sub] at h0
    simp only [costSum, sumI, Int.mul_add]
    omega
theorem mul_nn_neg {a b : Int} (ha : a ≤ 0) (hb : b ≤ 0) : 0 ≤ a * b := by
  have := Int.mul_nonneg (a := -a) (b := -b) (by omega) (by omega)
  rwa [Int.neg_mul_neg] at this
/-- Nothing that gives as much is cheaper. -/
theorem disp_least {xs : List R4} {L : Int} {ys zs : List Int} (h : dispO xs L = some zs) (ho : OutsP xs ys) (hs : sumI ys = L) : costSum xs zs ≤ costSum xs ys := by
  obtain ⟨hoz, hsz⟩ := dispO_outs h
  obtain ⟨hu, h1, h2, e⟩ := dispO_some h
  have hb : ∀ k, k < xs.length → (uAt xs k).a ≤ gI ys k ∧ gI ys k ≤ (uAt xs k).b := fun k hk => by
    have hk2 : k < ys.length := by rw [ho.2.1]; exact hk
    have := ho.2.2 k hk hk2
    rw [uAt_get hk, gI_get hk2]; exact this
  have hbz : ∀ k, k < xs.length → (uAt xs k).a ≤ gI zs k ∧ gI zs k ≤ (uAt xs k).b := fun k hk => by
    have hk2 : k < zs.length := by rw [hoz.2.1]; exact hk
    have := hoz.2.2 k hk hk2
    rw [uAt_get hk, gI_get hk2]; exact this
  by_cases hT : L - sumA xs < sumB xs - sumA xs
  · obtain ⟨b, _, hbl, _, _, hf, hl⟩ := next_dst hu (by omega) hT
    rw [← e] at hf hl
    have := cost_opt (lam := (uAt xs b).c) (xs := xs) (ys := ys) (zs := zs) ho.2.1 hoz.2.1 (fun k hk => by
      have h3 := hb k hk; have h4 := hbz k hk
      by_cases c1 : (uAt xs k).c < (uAt xs b).c
      · rw [hf k hk c1]; exact mul_nn_neg (by omega) (by omega)
      · by_cases c2 : (uAt xs b).c < (uAt xs k).c
        · rw [hl k hk c2]; exact Int.mul_nonneg (by omega) (by omega)
        · rw [show (uAt xs k).c - (uAt xs b).c = 0 from by omega]; simp)
    rw [hs, hsz] at this; omega
  · obtain ⟨_, hf⟩ := next_full hu (by omega) (show sumB xs - sumA xs ≤ L - sumA xs from by omega)
    rw [← e] at hf
    have := cost_opt (lam := 100) (xs := xs) (ys := ys) (zs := zs) ho.2.1 hoz.2.1 (fun k hk => by
      have h3 := hb k hk
      have hc := hu.at hk; unfold UniOk at hc
      rw [hf k hk]; exact mul_nn_neg (by omega) (by omega))
    rw [hs, hsz] at this; omega
/-- What the next unit of power costs. -/
def nextC (xs : List R4) (L : Int) : Int := match dispO xs L with
  | none => -1
  | some ys => if nextF xs ys xs.length < 0 then -1 else (uAt xs (nextF xs ys xs.length).toNat).c
theorem nextC_eq (xs : List R4) (L : Int) : nextC xs L = match dispO xs L, dispO xs (L + 1) with
  | some ys, some zs => costSum xs zs - costSum xs ys
  | _, _ => -1 := by
  unfold nextC
  cases h : dispO xs L with
  | none => rfl
  | some ys =>
    obtain ⟨hu, h1, h2, rfl⟩ := dispO_some h
    simp only
    by_cases hT : L < sumB xs
    · obtain ⟨b, hn, hbl, _, hset, _, _⟩ := next_dst hu (T := L - sumA xs) (by omega) (by omega)
      rw [dispO_mk hu (by omega) (by omega), hn, if_neg (by omega), Int.toNat_natCast]
      simp only
      rw [show L + 1 - sumA xs = L - sumA xs + 1 from by omega, hset, costSum_set (dst_len _ _) hbl]
      have : gI (dst xs (L - sumA xs)) b + 1 - gI (dst xs (L - sumA xs)) b = 1 := by omega
      rw [this]; omega
    · obtain ⟨hn, _⟩ := next_full hu (T := L - sumA xs) (by omega) (by omega)
      rw [hn, if_pos (by omega), dispO_mkn (fun hh => by omega)]
theorem nextC_pos {xs : List R4} {L : Int} (h : nextC xs L ≠ -1) : ∃ ys zs, dispO xs L = some ys ∧ dispO xs (L + 1) = some zs ∧ nextC xs L = costSum xs zs - costSum xs ys := by
  have e := nextC_eq xs L
  cases h1 : dispO xs L with
  | none => rw [h1] at e; exact absurd e h
  | some ys =>
    cases h2 : dispO xs (L + 1) with
    | none => rw [h1, h2] at e; exact absurd e h
    | some zs => rw [h1, h2] at e; exact ⟨ys, zs, rfl, rfl, e⟩
/-- It never gets cheaper. -/
theorem nextC_mono {xs : List R4} {L : Int} (h1 : 0 ≤ nextC xs L) (h2 : 0 ≤ nextC xs (L + 1)) : nextC xs L ≤ nextC xs (L + 1) := by
  obtain ⟨ys, zs, e1, e2, _⟩ := nextC_pos (xs := xs) (L := L) (by omega)
  obtain ⟨zs', vs, e3, e4, _⟩ := nextC_pos (xs := xs) (L := L + 1) (by omega)
  obtain ⟨hu, a1, a2, rfl⟩ := dispO_some e1
  obtain ⟨_, b1, b2, rfl⟩ := dispO_some e2
  obtain ⟨_, c1, c2, rfl⟩ := dispO_some e4
  obtain ⟨b, hn, hbl, hbr, hset, hfull, _⟩ := next_dst hu (T := L - sumA xs) (by omega) (by omega)
  obtain ⟨d, hn', hdl, hdr, _, _, _⟩ := next_dst hu (T := L + 1 - sumA xs) (by omega) (by omega)
  have g1 : nextC xs L = (uAt xs b).c := by unfold nextC; rw [e1]; simp only; rw [hn, if_neg (by omega), Int.toNat_natCast]
  have g2 : nextC xs (L + 1) = (uAt xs d).c := by unfold nextC; rw [e2]; simp only; rw [hn', if_neg (by omega), Int.toNat_natCast]
  rw [g1, g2]
  rcases Int.lt_or_le (uAt xs d).c (uAt xs b).c with hc | hc
  · exfalso
    have hf := hfull d hdl hc
    rw [show L + 1 - sumA xs = L - sumA xs + 1 from by omega, hset, gI_set (by rw [dst_len]; exact hbl)] at hdr
    split at hdr
    · rename_i e; subst e; omega
    · omega
  · exact hc
end Go.Proofs.YtcpopbkcphpdfaaDoor
