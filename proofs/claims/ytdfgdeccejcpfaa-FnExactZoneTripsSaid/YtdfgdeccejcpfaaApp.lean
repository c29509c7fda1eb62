/- A slice of the call's own that grows. No program is in sight here. -/
import Derived.Test.YtdfgdeccejcpfaaMk
import Derived.Maps.AppendAt
namespace Go.Proofs.Ytdfgdeccejcpfaa
open Go.RowKit Go.ChangeShapes Go.WideShapes Go.Deep
set_option linter.unusedSimpArgs false
set_option linter.unusedVariables false

/-- The cells of a list. -/
def flatC {α : Type} (k : Nat) (c : α → Nat → Value) (xs : List α) : List Value := xs.flatMap fun x => (List.range k).map (c x)
theorem flatC_len {α : Type} (k : Nat) (c : α → Nat → Value) (xs : List α) : (flatC k c xs).length = xs.length * k := by
  unfold flatC
  induction xs with
  | nil => simp
  | cons x xs ih => rw [List.flatMap_cons, List.length_append, ih]; simp [Nat.succ_mul, Nat.add_comm]
theorem flatC_append {α : Type} (k : Nat) (c : α → Nat → Value) (xs ys : List α) : flatC k c (xs ++ ys) = flatC k c xs ++ flatC k c ys := by simp [flatC]
theorem flatC_at {α : Type} (k : Nat) (c : α → Nat → Value) (xs : List α) (i j : Nat) (x : α) (hx : xs[i]? = some x) (hj : j < k) : (flatC k c xs)[i * k + j]? = some (c x j) := by
  induction xs generalizing i with
  | nil => simp at hx
  | cons y ys ih =>
    show ((List.range k).map (c y) ++ flatC k c ys)[i * k + j]? = _
    cases i with
    | zero =>
      simp at hx; subst hx
      rw [List.getElem?_append_left (by simp; omega)]
      simp [hj]
    | succ i =>
      have h1 : (i + 1) * k + j = k + (i * k + j) := by rw [Nat.succ_mul]; omega
      rw [List.getElem?_append_right (by simp; omega), h1]
      simp only [List.length_map, List.length_range, Nat.add_sub_cancel_left]
      exact ih i (by simpa using hx)
theorem flatC_get {α : Type} (k : Nat) (c : α → Nat → Value) (xs : List α) (q : Nat) (u : Value) (hu : (flatC k c xs)[q]? = some u) : ∃ i j x, q = i * k + j ∧ j < k ∧ xs[i]? = some x ∧ u = c x j := by
  have hq : q < xs.length * k := by
    have := (List.getElem?_eq_some_iff.1 hu).1
    rwa [flatC_len] at this
  have hk : 0 < k := by
    rcases Nat.eq_zero_or_pos k with h | h
    · subst h; simp at hq
    · exact h
  have hi : q / k < xs.length := (Nat.div_lt_iff_lt_mul hk).2 hq
  have hx := List.getElem?_eq_getElem hi
  have := flatC_at k c xs (q / k) (q % k) _ hx (Nat.mod_lt _ hk)
  rw [Nat.mul_comm, Nat.div_add_mod] at this
  rw [this] at hu
  injection hu with hu
  exact ⟨q / k, q % k, _, by rw [Nat.mul_comm, Nat.div_add_mod], Nat.mod_lt _ hk, hx, hu.symm⟩

/-- v is a slice of the call's own, its block from B on, that holds xs. -/
def Own {α : Type} (k : Nat) (c : α → Nat → Value) (T : TypeId) (w : World) (B : Nat) (v : Value) (xs : List α) : Prop := w.ownsRow B T k v xs.length (flatC k c xs)
section
variable {α : Type} {k : Nat} {c : α → Nat → Value} {T : TypeId} {w w' : World} {B : Nat} {v : Value} {xs : List α}
theorem Own.nil : Own k c T w B (.slice none 0 0) ([] : List α) := ⟨by simp [flatC], .inl ⟨rfl, rfl⟩⟩
theorem Own.slice (h : Own k c T w B v xs) : ∃ A cp, v = .slice A xs.length cp := by
  rcases h.2 with ⟨rfl, h0⟩ | ⟨g, cap, cur, rfl, _⟩
  · exact ⟨none, 0, by rw [h0]⟩
  · exact ⟨_, _, rfl⟩
theorem Own.res (h : Own k c T w B v xs) : Res k c T w B v xs := by
  rcases h.2 with ⟨rfl, h0⟩ | ⟨g, cap, cur, rfl, hB, hg, hn, hm, hs, ht⟩
  · exact ⟨none, 0, by rw [h0], .inl (List.length_eq_zero_iff.1 h0)⟩
  · refine ⟨_, _, rfl, .inr ⟨g, cap * k, fun i => (cur[i]?).getD default, rfl, hB, ⟨cur, hg, hs, fun i hi => ?_⟩, Nat.mul_le_mul_right _ hn, fun i x hx j hj => ?_⟩⟩
    · simp [Array.getElem?_eq_getElem (show i < cur.size by omega)]
    · have h1 := flatC_at k c xs i j x hx hj
      have hi : i < xs.length := (List.getElem?_eq_some_iff.1 hx).1
      rw [← ht, List.getElem?_take, if_pos (idx_lt hi hj), Array.getElem?_toList] at h1
      show (cur[i * k + j]?).getD default = _
      rw [h1]; rfl
theorem Own.blk (h : Own k c T w B v xs) : ∀ g, v.ownBlock = some g → B ≤ g ∧ g < w.heap.size := h.lt
theorem Own.keep (h : Own k c T w B v xs) (hb : Below w.heap.size w w') : Own k c T w' B v xs := by
  unfold Own
  refine World.ownsRow.kept (row := none) h ⟨hb.os, hb.tape, hb.output, hb.size, fun g hg _ => hb.block g hg⟩ ?_
  rcases hv : v.ownBlock with _ | g
  · exact .inl rfl
  · exact .inr (by simp)
theorem Own.keep_at (h : Own k c T w B v xs) (hz : w.heap.size ≤ w'.heap.size) (ho : w'.os = w.os) (ht : w'.tape = w.tape) (hu : w'.output = w.output) (hb : ∀ g, v.ownBlock = some g → w'.heap[g]? = w.heap[g]?) : Own k c T w' B v xs := by
  refine ⟨h.1, ?_⟩
  rcases h.2 with ⟨rfl, h0⟩ | ⟨g, cap, cur, rfl, hB, hg, hn, hm, hs, htk⟩
  · exact .inl ⟨rfl, h0⟩
  · exact .inr ⟨g, cap, cur, rfl, hB, (hb g rfl).trans hg, hn, hm, hs, htk⟩
theorem Own.alloc (h : Own k c T w B v xs) (o : Obj) : Own k c T (w.alloc o) B v xs := World.ownsRow.alloc h o
theorem Own.drewN (h : Own k c T w B v xs) (n : Nat) : Own k c T (w.drewN n) B v xs := h
theorem Own.drew (h : Own k c T w B v xs) : Own k c T w.drew B v xs := h
theorem Own.reads (h : Own k c T w B v xs) {A : Option Addr} {n cp : Nat} (hv : v = .slice A n cp) : Reads k c w w.heap.size A xs ∧ n = xs.length := by
  subst hv; exact h.res.reads
/-- A literal. -/
theorem Own.lit (w : World) (T : TypeId) (cs : Array Value) (n : Nat) (xs : List α) (hB : B ≤ w.heap.size) (hn : n = xs.length) (hm : n ≤ 16777216) (hc : cs.toList = flatC k c xs) : Own k c T (w.alloc (.cells cs T)) B (.slice (some ⟨w.heap.size, 0, none⟩) n n) xs := by
  unfold Own
  have hs : cs.size = n * k := by rw [← Array.length_toList, hc, flatC_len, hn]
  have := World.ownsRow_lit (base := B) (e := T) (size := k) w cs n hB (by unfold maxLen; omega) hs
  rw [hc, hn] at this
  rw [hn]; exact this
end
theorem reads_cells {α : Type} {k : Nat} {c : α → Nat → Value} {w : World} {B : Nat} {ad : Addr} {ys : List α} (h : Reads k c w B (some ad) ys) (hne : ys ≠ []) : ∀ j u, (flatC k c ys)[j]? = some u → w.cell? (ad.add j) = some u := by
  intro q u hu
  obtain ⟨i, j, x, rfl, hj, hx, rfl⟩ := flatC_get k c ys q u hu
  rcases h with h | ⟨b, off, hA, hb, hc⟩
  · exact absurd h hne
  · injection hA with hA
    subst hA
    have := hc i x hx j hj
    unfold Addr.add
    split
    · rename_i h0; rw [h0] at this; simpa using this
    · exact this
section
variable {α : Type} {P : Program} (w : World) {k : Nat} {c : α → Nat → Value}
theorem run_app (t ty T : TypeId) (z : Value) (bytes : Nat) (ht : P.underlying t = some (.slice T)) (hi : (P.info? T).map (fun i => (i.zero, i.size, i.bytes)) = some (some z, k, bytes)) (hzs : z.cells.size = k) (hk : 0 < k) (hby : bytes ≤ 64) (h1 : ∀ (x : α) j, (c x j).oneCell' = true)
    (v : Value) (B : Nat) (xs : List α) (hown : Own k c T w B v xs) (A : Option Addr) (m cp : Nat) (ys : List α) (hr : Reads k c w w.heap.size A ys) (hm : m = ys.length) (hlen : xs.length + ys.length ≤ 16777216) (hB : B ≤ w.heap.size) :
    ∃ v' w', (Builtin.append_ #[t, t] ty #[v, .slice A m cp]).run P w = .ok v' w' ∧ Own k c T w' B v' (xs ++ ys) ∧ w.grownBy w' v.ownBlock ∧ (v'.ownBlock = v.ownBlock ∨ v'.ownBlock = some w.heap.size) := by
  obtain ⟨i, hi1, hi2, hi3, hi4⟩ := info_parts hi
  rcases A with _ | ad
  · have hys : ys = [] := by
      rcases hr with h | ⟨b, off, hA, _⟩
      · exact h
      · cases hA
    subst hys
    obtain rfl : m = 0 := by simpa using hm
    have hrun : (Builtin.append_ #[t, t] ty #[v, .slice none 0 cp]).run P w = .ok v w := by
      rcases hown.2 with ⟨rfl, h0⟩ | ⟨g, cap, cur, rfl, _, _, hnc, _⟩
      · simp [Builtin.append_, run_underlying ht, sizeOf, typeInfo, hi1, Builtin.lenOf, Builtin.firstCells]
      · simp [Builtin.append_, run_underlying ht, sizeOf, typeInfo, hi1, Builtin.lenOf, Builtin.firstCells, hnc, storeCells]
    refine ⟨v, w, hrun, by simpa using hown, ⟨rfl, rfl, rfl, Nat.le_refl _, fun _ _ _ => rfl⟩, .inl rfl⟩
  · have hcells : ∀ j u, (flatC k c ys)[j]? = some u → w.cell? (ad.add j) = some u := by
      by_cases hne : ys = []
      · subst hne; intro j u hu; simp [flatC] at hu
      · exact reads_cells hr hne
    have hb1 : (xs.length + m) * bytes ≤ 140737488355328 := by
      have : (xs.length + m) * bytes ≤ 16777216 * 64 := Nat.mul_le_mul (by omega) hby
      omega
    obtain ⟨v', w', hrun, h2, h3, _, h5⟩ := run_append_own_at (P := P) w B t ty T i z k bytes ht hi1 hi2 hi3 hi4 hzs hk v xs.length (flatC k c xs) hown ad m cp (flatC k c ys) (by rw [flatC_len, hm]) hcells
      (fun u hu => by
        obtain ⟨q, hq⟩ := List.mem_iff_getElem?.1 hu
        obtain ⟨_, _, x, _, _, _, rfl⟩ := flatC_get k c ys q u hq
        exact h1 _ _) (by unfold maxLen; omega) hb1 hB
    refine ⟨v', w', hrun, ?_, h3, h5⟩
    unfold Own
    rw [flatC_append, List.length_append, ← hm]
    exact h2
theorem wp_app {o : Oper} {a : Act} {K : Act → World → Prop} {Q : Exit → Act → World → Prop} (s x : Operand) (t : TypeId)
    (ho : o.op = .call { callee := .builtin .append, args := #[s, x], argTypes := #[t, t] }) (T : TypeId) (z : Value) (bytes : Nat) (ht : P.underlying t = some (.slice T)) (hi : (P.info? T).map (fun i => (i.zero, i.size, i.bytes)) = some (some z, k, bytes)) (hzs : z.cells.size = k) (hk : 0 < k) (hby : bytes ≤ 64) (h1 : ∀ (x : α) j, (c x j).oneCell' = true)
    (v : Value) (B : Nat) (xs : List α) (hs : a.eval s = v) (hown : Own k c T w B v xs) (A : Option Addr) (m cp : Nat) (ys : List α) (hx : a.eval x = .slice A m cp) (hr : Reads k c w w.heap.size A ys) (hm : m = ys.length) (hlen : xs.length + ys.length ≤ 16777216) (hB : B ≤ w.heap.size)
    (h : ∀ v' w', Own k c T w' B v' (xs ++ ys) → w.grownBy w' v.ownBlock → (v'.ownBlock = v.ownBlock ∨ v'.ownBlock = some w.heap.size) → K (a.put o.dst v') w') : o.wp P a w K Q := by
  obtain ⟨v', w', hrun, h2, h3, h4⟩ := run_app w t o.type T z bytes ht hi hzs hk hby h1 v B xs hown A m cp ys hr hm hlen hB
  unfold Oper.wp execOp
  simp only [ho, resolve, invoke, builtin, Sem.run_bind, Sem.run_pure, Result.andThen_ok, List.map_toArray, List.map_cons, List.map_nil, hs, hx, hrun]
  exact h v' w' h2 h3 h4
theorem wpList_app {ops : Array Oper} {rest : List Oper} {o : Oper} {a : Act} {Q : Exit → Act → World → Prop} (hgd : o.guard = none) (s x : Operand) (t : TypeId)
    (ho : o.op = .call { callee := .builtin .append, args := #[s, x], argTypes := #[t, t] }) (T : TypeId) (z : Value) (bytes : Nat) (ht : P.underlying t = some (.slice T)) (hi : (P.info? T).map (fun i => (i.zero, i.size, i.bytes)) = some (some z, k, bytes)) (hzs : z.cells.size = k) (hk : 0 < k) (hby : bytes ≤ 64) (h1 : ∀ (x : α) j, (c x j).oneCell' = true)
    (v : Value) (B : Nat) (xs : List α) (hs : a.eval s = v) (hown : Own k c T w B v xs) (A : Option Addr) (m cp : Nat) (ys : List α) (hx : a.eval x = .slice A m cp) (hr : Reads k c w w.heap.size A ys) (hm : m = ys.length) (hlen : xs.length + ys.length ≤ 16777216) (hB : B ≤ w.heap.size)
    (h : ∀ v' w', Own k c T w' B v' (xs ++ ys) → w.grownBy w' v.ownBlock → (v'.ownBlock = v.ownBlock ∨ v'.ownBlock = some w.heap.size) → wpList P ops Q rest (a.put o.dst v') w') : wpList P ops Q (o :: rest) a w :=
  wpList_plain hgd fun _ hK => wp_app w s x t ho T z bytes ht hi hzs hk hby h1 v B xs hs hown A m cp ys hx hr hm hlen hB fun v' w' h2 h3 h4 => hK _ _ (h v' w' h2 h3 h4)
end
theorem intC_one (x : Int) (j : Nat) : (intC x j).oneCell' = true := rfl
theorem boolC_one (x : Bool) (j : Nat) : (boolC x j).oneCell' = true := rfl
theorem r2C_one (x : R2) (j : Nat) : (r2C x j).oneCell' = true := by unfold r2C; split <;> rfl
theorem r3C_one (x : R3) (j : Nat) : (r3C x j).oneCell' = true := by unfold r3C; split; rfl; split <;> rfl
theorem r4C_one (x : R4) (j : Nat) : (r4C x j).oneCell' = true := by unfold r4C; split; rfl; split; rfl; split <;> rfl
end Go.Proofs.Ytdfgdeccejcpfaa
