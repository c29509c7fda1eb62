/- Slices of slices of ints: copies. -/
import Derived.Test.YtdfgdeccejcpfaaZtP
import Derived.Test.YtdfgdeccejcpfaaSl1
import Derived.Test.YtdfgdeccejcpfaaMk
namespace Go.Proofs.Ytdfgdeccejcpfaa
open Go.RowKit Go.Deep
set_option linter.unusedSimpArgs false
set_option linter.unusedVariables false
/-- A slice of ints in a block of its own from lo on, below hi. -/
structure InS (w : World) (lo hi : Nat) (s : SV) : Prop where
  le : lo ≤ hi
  top : hi ≤ w.heap.size
  res : Res 1 intC 3 w lo (.slice s.A s.xs.length s.c) s.xs
  own : s.xs.length = 0 ∨ ∀ q, (Value.slice s.A s.xs.length s.c).ownBlock = some q → q < hi
theorem InS.kept {w w' : World} {lo hi : Nat} {s : SV} (h : InS w lo hi s) (hz : w.heap.size ≤ w'.heap.size) (hb : ∀ g, lo ≤ g → g < w.heap.size → w'.heap[g]? = w.heap[g]?) : InS w' lo hi s := ⟨h.le, Nat.le_trans h.top hz, h.res.kept hb, h.own⟩
def svN : SV := ⟨none, 0, []⟩
set_option maxRecDepth 100000 in
set_option maxHeartbeats 4000000 in
theorem toIntSS_any (A : Option Addr) (c : Nat) (zss : List SV) (w : World) (hR : Reads 1 svC w w.heap.size A zss) (hz : ∀ s ∈ zss, s.xs.length ≤ 1048576 ∧ Reads 1 intC w w.heap.size s.A s.xs) (hl : zss.length ≤ 1048576) :
    Calls Try.prog 28 #[.slice A zss.length c] w fun e w' => ∃ (yss : List SV) (hs : Nat → Nat), e = .returned (.slice (some ⟨w.heap.size, 0, none⟩) zss.length zss.length) ∧ yss.length = zss.length ∧ (∀ i, i < zss.length → zAt yss i = zAt zss i) ∧ hs 0 = w.heap.size + 1 ∧ (∀ i, i < zss.length → InS w' (hs i) (hs (i + 1)) (yss.getD i svN)) ∧ w'.rowIs w.heap.size 25 zss.length (fun j => svC (yss.getD j svN) 0) ∧ Below w.heap.size w w' := by
  have hmk := fun W => run_mk (P := Try.prog) 48 25 (.slice none 0 0) 1 24 zss.length Try.underlying48 (by kernel_rfl) (by omega) (by omega) W
  have HR := Lib.hid hR; clear hR
  have HZ := Lib.hid hz; clear hz
  generalize hn : zss.length = n at hmk hl ⊢
  have HN := Lib.hid hn; clear hn
  have HRow0 := Lib.hid (World.rowIs_made w (.slice none 0 0) n 25)
  go_enter Try.func28, Try.ntmps28
  go_wp2_with fail
  go_loopw [4] (fun t wr => ∃ (i : Nat) (yss : List SV) (hs : Nat → Nat), t = .int .i64 i ∧ i ≤ n ∧ Hid (yss.length = i ∧ (∀ k, k < i → zAt yss k = zAt zss k) ∧ hs 0 = w.heap.size + 1 ∧ ∀ k, i ≤ k → hs k ≤ wr.heap.size) ∧ Hid (∀ k, k < i → InS wr (hs k) (hs (k + 1)) (yss.getD k svN)) ∧ Hid (∀ k, hs 0 ≤ hs k) ∧ Hid (wr.rowIs w.heap.size 25 n (fun j => if j < i then svC (yss.getD j svN) 0 else .slice none 0 0)) ∧ Hid (Below w.heap.size w wr)) (fun t _ => n - (intOf t).toNat)
  case atStart =>
    refine ⟨0, [], fun _ => w.heap.size + 1, rfl, Nat.zero_le _, ⟨rfl, fun k hk => by omega, rfl, fun k _ => by simp⟩, fun k hk => by omega, fun k => Nat.le_refl _, ?_, ?_⟩
    · unfold Hid
      have h := HRow0.out
      try simp only [Nat.mul_one]
      exact h.congr (fun i _ => by simp)
    · unfold Hid; (repeat' (first | (with_reducible exact Below.refl _ _) | (with_reducible refine Below.alloc ?_ ?_ _) | (with_reducible refine Below.setCell ?_ ?_ _) | (with_reducible refine Below.drew ?_) | (refine Below.trans ?_ (Below.mono (by with_reducible assumption) ?_)) | go_size))
  case round =>
    obtain ⟨i, yss, hs, rfl, hi, HY, HI, HMON, HRow, HB⟩ := hrel
    clear HRow0
    have hzr := HRow.out.lt
    by_cases hlt : i < n
    · have hx : i < zss.length := by rw [HN.out]; exact hlt
      have hi1 : (i : Int) < (n : Int) := by omega
      obtain ⟨b, off, hA, hb, hc⟩ := svReads HR.out hx
      subst hA
      have hc1 := (HB.out.cell (p := ⟨b, off + i, none⟩) hb).trans hc
      have hc2 := HRow.out.cell hlt
      have hf2 := HRow.out.frozen i
      simp only [Nat.lt_irrefl, if_false] at hc2
      obtain ⟨sA, hsA⟩ : ∃ a, zss[i].A = a := ⟨_, rfl⟩
      obtain ⟨sc, hsc⟩ : ∃ a, zss[i].c = a := ⟨_, rfl⟩
      have hzk := HZ.out _ (List.getElem_mem hx)
      have he : zss[i].xs = zAt zss i := by unfold zAt; rw [getD_lt hx]
      rw [he, hsA] at hzk
      rw [hsA, hsc] at hc1
      obtain ⟨xs, hxs⟩ : ∃ x, zAt zss i = x := ⟨_, rfl⟩
      rw [hxs] at hzk hc1
      have HXS := Lib.hid hxs
      clear hc he hsA hsc hxs
      have HRi : Hid (Reads 1 intC wr wr.heap.size sA xs) := (hzk.2.below HB.out (Nat.le_refl _)).more HB.out.size
      have hxl := hzk.1
      clear hzk hmk
      go_wp2_with fail
      refine (toIntS_any sA sc xs wr HRi.out hxl).mono ?_
      rintro e w2 ⟨v, rfl, hres, hb2⟩
      have HRS := Lib.hid hres
      obtain ⟨A', c', rfl, -⟩ := hres
      have hrow2 := HRow.out.of_block (hb2.block _ hzr)
      have HRow2 := Lib.hid hrow2
      have hc3 := hrow2.cell hlt
      have hf3 := hrow2.frozen i
      have hz3 := hrow2.lt
      simp only [Nat.lt_irrefl, if_false] at hc3
      have HB2 : Hid (Below w.heap.size w w2) := HB.out.trans (hb2.mono HB.out.size)
      have HBB := Lib.hid hb2
      clear hrow2 hb2 hc1 hc2 hf2
      go_wp2_with fail
      have hzz := HBB.out.size
      obtain ⟨hy1, hy2, hy3, hy4⟩ := HY.out
      have hgl : ∀ k, k < i → (yss ++ [(⟨A', c', xs⟩ : SV)]).getD k svN = yss.getD k svN := fun k hk => by
        rw [List.getD_eq_getElem?_getD, List.getD_eq_getElem?_getD, List.getElem?_append_left (by omega)]
      have hgl0 : ∀ k, k < i → zAt (yss ++ [(⟨A', c', xs⟩ : SV)]) k = zAt yss k := fun k hk => by
        unfold zAt
        rw [List.getD_eq_getElem?_getD, List.getD_eq_getElem?_getD, List.getElem?_append_left (by omega)]
      have hgi : (yss ++ [(⟨A', c', xs⟩ : SV)])[i]? = some ⟨A', c', xs⟩ := by
        rw [List.getElem?_append_right (by omega), hy1]; simp
      have hset : ∀ g, w.heap.size < g → (w2.setCell ⟨w.heap.size, i, none⟩ (.slice A' xs.length c')).heap[g]? = w2.heap[g]? := fun g hg => Below.heap_setCell w2 ⟨w.heap.size, i, none⟩ _ g (by simp; omega)
      have hszs : (w2.setCell ⟨w.heap.size, i, none⟩ (.slice A' xs.length c')).heap.size = w2.heap.size := by simp
      refine ⟨⟨i + 1, yss ++ [⟨A', c', xs⟩], fun j => if j ≤ i then hs j else w2.heap.size, by go_num, by omega, ⟨by simp; omega, fun k hk => ?_, by simp; exact hy3, fun k hk => ?_⟩, fun k hk => ?_, fun k => ?_, ?_, ?_⟩, by simp [intOf]; omega⟩
      · by_cases e : k = i
        · subst e
          rw [HXS.out]; unfold zAt
          rw [List.getD_eq_getElem?_getD, hgi]; rfl
        · rw [hgl0 k (by omega)]; exact hy2 k (by omega)
      · show (if k ≤ i then hs k else w2.heap.size) ≤ _
        rw [if_neg (by omega), hszs]; exact Nat.le_refl _
      · show InS _ (if k ≤ i then hs k else w2.heap.size) (if k + 1 ≤ i then hs (k + 1) else w2.heap.size) _
        have hm := HMON.out k
        by_cases e : k = i
        · subst e
          rw [if_pos (Nat.le_refl _), if_neg (by omega), List.getD_eq_getElem?_getD, hgi]
          have h4 := hy4 k (Nat.le_refl _)
          refine ⟨by omega, by rw [hszs]; exact Nat.le_refl _, ?_, HRS.out.top⟩
          exact (HRS.out.mono h4).kept (fun g hg1 hg2 => hset g (by omega))
        · rw [if_pos (by omega), if_pos (by omega), hgl k (by omega)]
          exact (HI.out k (by omega)).kept (by rw [hszs]; exact hzz) (fun g hg1 hg2 => (hset g (by omega)).trans (HBB.out.block g hg2))
      · show (if 0 ≤ i then hs 0 else w2.heap.size) ≤ (if k ≤ i then hs k else w2.heap.size)
        rw [if_pos (Nat.zero_le _)]
        split
        · exact HMON.out k
        · have := hy4 i (Nat.le_refl _); have := HMON.out i; omega
      · unfold Hid
        refine (HRow2.out.set i _).congr (fun j hj => ?_)
        by_cases hji : j = i
        · subst hji; rw [if_pos rfl, if_pos (by omega), List.getD_eq_getElem?_getD, hgi]; rfl
        · rw [if_neg hji]
          by_cases hj2 : j < i
          · rw [if_pos hj2, if_pos (by omega), hgl j hj2]
          · rw [if_neg hj2, if_neg (by omega)]
      · unfold Hid; exact HB2.out.setCell (Nat.le_refl _) _
    · obtain rfl : i = n := by omega
      clear hmk
      go_wp2_with fail
      go_ret
      obtain ⟨hy1, hy2, hy3, hy4⟩ := HY.out
      exact ⟨yss, hs, rfl, hy1, hy2, hy3, HI.out, HRow.out.congr (fun j hj => by rw [if_pos (by omega)]), HB.out⟩
end Go.Proofs.Ytdfgdeccejcpfaa
