/- Which units run: what they cost, what they spare. -/
import Derived.Test.YtcpopbkcphpdfaaDoorNxt
namespace Go.Proofs.YtcpopbkcphpdfaaDoor
open Go.RowKit Go.Deep
set_option linter.unusedSimpArgs false
set_option linter.unusedVariables false

def runL : List R4 → List Bool → List R4
  | x :: xs, b :: bs => if b then x :: runL xs bs else runL xs bs
  | _, _ => []
theorem runL_snoc : ∀ {xs : List R4} {on : List Bool} {i : Nat} (h1 : i < xs.length) (h2 : i < on.length), runL (xs.take (i + 1)) (on.take (i + 1)) = runL (xs.take i) (on.take i) ++ (if on[i] then [xs[i]] else [])
  | [], _, _, h, _ => by simp at h
  | _ :: _, [], _, _, h => by simp at h
  | x :: xs, b :: on, 0, _, _ => by cases b <;> simp [runL]
  | x :: xs, b :: on, i + 1, h1, h2 => by
    have := runL_snoc (xs := xs) (on := on) (i := i) (by simpa using h1) (by simpa using h2)
    simp only [List.take_succ_cons, runL, List.getElem_cons_succ, this]
    cases b <;> simp
theorem runL_len : ∀ {xs : List R4} {on : List Bool}, (runL xs on).length ≤ xs.length
  | [], _ => by simp [runL]
  | _ :: _, [] => by simp [runL]
  | x :: xs, b :: on => by
    have := runL_len (xs := xs) (on := on)
    simp only [runL]; split <;> simp <;> omega
theorem runL_mem : ∀ {xs : List R4} {on : List Bool} {u : R4}, u ∈ runL xs on → u ∈ xs
  | [], _, _, h => by simp [runL] at h
  | _ :: _, [], _, h => by simp [runL] at h
  | x :: xs, b :: on, u, h => by
    simp only [runL] at h
    split at h
    · rcases List.mem_cons.1 h with rfl | h
      · simp
      · exact List.mem_cons_of_mem _ (runL_mem h)
    · exact List.mem_cons_of_mem _ (runL_mem h)
theorem runL_unis {xs : List R4} {on : List Bool} (h : UnisP xs) : UnisP (runL xs on) := ⟨Nat.le_trans runL_len h.1, fun u hu => h.2 u (runL_mem hu)⟩

set_option maxRecDepth 100000 in
set_option maxHeartbeats 2000000 in
theorem specRunning_any (A B : Option Addr) (c d : Nat) (xs : List R4) (on : List Bool) (w : World) (hR : Reads 4 r4C w w.heap.size A xs) (hS : Reads 1 boolC w w.heap.size B on) (hl : xs.length ≤ 1048576) (hm : on.length = xs.length) :
    Calls Tryd.prog 75 #[.slice A xs.length c, .slice B on.length d] w (RetS 4 r4C 27 w (runL xs on)) := by
  have HR := Lib.hid hR; have HS := Lib.hid hS; have HM := Lib.hid hm; clear hR hS
  rw [hm]
  generalize hn : xs.length = n at hl ⊢
  have HN := Lib.hid hn; clear hn hm
  go_enter Tryd.func75, Tryd.ntmps75
  go_wp2_with fail
  go_loopw [5, 6] (fun t u wr => ∃ (i : Nat), u = .int .i64 i ∧ i ≤ n ∧ Hid (Own 4 r4C 27 wr w.heap.size t (runL (xs.take i) (on.take i))) ∧ Hid (Below w.heap.size w wr)) (fun _ u _ => n - (intOf u).toNat)
  case atStart =>
    refine ⟨0, rfl, Nat.zero_le _, ?_, ?_⟩
    · unfold Hid; simp only [List.take_zero, runL]; exact Own.lit (k := 4) (c := r4C) (B := w.heap.size) w 27 #[] 0 [] (Nat.le_refl _) rfl (by omega) rfl
    · unfold Hid; (repeat' (first | (with_reducible exact Below.refl _ _) | (with_reducible refine Below.alloc ?_ ?_ _) | (with_reducible refine Below.setCell ?_ ?_ _) | (with_reducible refine Below.drew ?_) | (refine Below.trans ?_ (Below.mono (by with_reducible assumption) ?_)) | go_size))
  case round =>
    obtain ⟨i, rfl, hi, HV, HB⟩ := hrel
    have hzw := HB.out.size
    by_cases hlt : i < n
    · have hx : i < xs.length := by rw [HN.out]; exact hlt
      have hy : i < on.length := by rw [HM.out]; exact hx
      have HST := Lib.hid (runL_snoc hx hy)
      obtain ⟨b2, off2, rfl, hb2, hd'⟩ := HS.out.at1 hy
      have hd : wr.cell? ⟨b2, off2 + i, none⟩ = some (.bool on[i]) := (HB.out.cell (p := ⟨b2, off2 + i, none⟩) hb2).trans hd'
      obtain ⟨b, off, rfl, hb, hc0, hc1, hc2, hc3⟩ := HR.out.at4 hx
      have hc0 := (HB.out.cell (p := ⟨b, off + i * 4, none⟩) hb).trans hc0
      have hc1 := (HB.out.cell (p := ⟨b, off + i * 4 + 1, none⟩) hb).trans hc1
      have hc2 := (HB.out.cell (p := ⟨b, off + i * 4 + 2, none⟩) hb).trans hc2
      have hc3 := (HB.out.cell (p := ⟨b, off + i * 4 + 3, none⟩) hb).trans hc3
      have hbw : b < wr.heap.size := Nat.lt_of_lt_of_le hb hzw
      have hi1 : (i : Int) < (n : Int) := by omega
      have hi0 : (0 : Int) ≤ (i : Int) := by omega
      clear hd'
      generalize xs[i] = x at hc0 hc1 hc2 hc3 HST
      generalize on[i] = o at hd HST
      obtain ⟨vA, vc, hvv⟩ := HV.out.slice
      have hln : (runL (xs.take i) (on.take i)).length ≤ 1048576 := Nat.le_trans runL_len (by rw [List.length_take]; omega)
      have HVO := Lib.hid hvv
      generalize hll : (runL (xs.take i) (on.take i)).length = ll at hvv hln
      have HLL := Lib.hid hll; clear hll
      subst hvv
      cases o with
      | true =>
        have hblk := HV.out.blk
        have HBLK := Lib.hid hblk; clear hblk
        have HL2 := Lib.hid (Own.lit (k := 4) (c := r4C) (B := w.heap.size) wr 27 #[.int .i64 x.a, .int .i64 x.b, .int .i64 x.c, .int .i64 x.d] 1 [x] hzw rfl (by omega) rfl)
        have HR3 := Lib.hid (HL2.out.reads rfl).1
        have HV3 := Lib.hid (HV.out.alloc (.cells #[.int .i64 x.a, .int .i64 x.b, .int .i64 x.c, .int .i64 x.d] 27))
        go_wp2_with (first
          | (at_builtin
             refine wpList_app (k := 4) (c := r4C) _ rfl _ _ _ rfl 27 (.agg (Array.replicate 4 (.int .i64 0))) 32 Tryd.underlying23 (by kernel_rfl) rfl (by decide) (by decide) r4C_one _ _ _ rfl HV3.out _ _ _ _ rfl HR3.out ?hm ?hlen ?hB ?_
             case hm => rfl
             case hlen => have := HLL.out; simp only [List.length_cons, List.length_nil]; omega
             case hB => rw [World.size_alloc]; omega
             intro v4 w4 hown4 hg4 hat4
             have HB4 : Hid (Below w.heap.size w w4) := (HB.out.alloc hzw _).grown hg4 (by rw [World.size_alloc]; omega) (fun k hk => (HBLK.out k hk).1)
             have HO4 := Lib.hid hown4
             clear hown4 hg4 hat4))
        refine ⟨⟨i + 1, by go_num, by omega, ?_, HB4⟩, by simp [intOf]; omega⟩
        unfold Hid; rw [HST.out]; simpa using HO4.out
      | false =>
        go_wp2_with fail
        refine ⟨⟨i + 1, by go_num, by omega, ?_, HB⟩, by simp [intOf]; omega⟩
        unfold Hid; rw [HST.out]; simpa using HV.out
    · have hV := HV.out.res
      rw [List.take_of_length_le (by rw [HN.out]; omega), List.take_of_length_le (by rw [HM.out, HN.out]; omega)] at hV
      have HV2 := Lib.hid hV; clear hV
      go_wp2
      go_ret
      exact ⟨_, rfl, HV2.out, HB.out⟩

set_option maxRecDepth 100000 in
set_option maxHeartbeats 2000000 in
theorem implRunning_any (A B : Option Addr) (c d : Nat) (xs : List R4) (on : List Bool) (w : World) (hR : Reads 4 r4C w w.heap.size A xs) (hS : Reads 1 boolC w w.heap.size B on) (hl : xs.length ≤ 1048576) (hm : on.length = xs.length) :
    Calls Tryd.prog 76 #[.slice A xs.length c, .slice B on.length d] w (RetS 4 r4C 27 w (runL xs on)) := by
  have HR := Lib.hid hR; have HS := Lib.hid hS; have HM := Lib.hid hm; clear hR hS
  rw [hm]
  generalize hn : xs.length = n at hl ⊢
  have HN := Lib.hid hn; clear hn hm
  go_enter Tryd.func76, Tryd.ntmps76
  go_wp2_with fail
  go_loopw [5, 10] (fun t u wr => ∃ (i : Nat), u = .int .i64 i ∧ i ≤ n ∧ Hid (Own 4 r4C 27 wr w.heap.size t (runL (xs.take i) (on.take i))) ∧ Hid (Below w.heap.size w wr)) (fun _ u _ => n - (intOf u).toNat)
  case atStart =>
    refine ⟨0, rfl, Nat.zero_le _, ?_, Below.refl _ _⟩
    unfold Hid; simp only [List.take_zero, runL]; exact Own.nil
  case round =>
    obtain ⟨i, rfl, hi, HV, HB⟩ := hrel
    have hzw := HB.out.size
    by_cases hlt : i < n
    · have hx : i < xs.length := by rw [HN.out]; exact hlt
      have hy : i < on.length := by rw [HM.out]; exact hx
      have HST := Lib.hid (runL_snoc hx hy)
      obtain ⟨b2, off2, rfl, hb2, hd'⟩ := HS.out.at1 hy
      have hd : wr.cell? ⟨b2, off2 + i, none⟩ = some (.bool on[i]) := (HB.out.cell (p := ⟨b2, off2 + i, none⟩) hb2).trans hd'
      obtain ⟨b, off, rfl, hb, hc0, hc1, hc2, hc3⟩ := HR.out.at4 hx
      have hc0 := (HB.out.cell (p := ⟨b, off + i * 4, none⟩) hb).trans hc0
      have hc1 := (HB.out.cell (p := ⟨b, off + i * 4 + 1, none⟩) hb).trans hc1
      have hc2 := (HB.out.cell (p := ⟨b, off + i * 4 + 2, none⟩) hb).trans hc2
      have hc3 := (HB.out.cell (p := ⟨b, off + i * 4 + 3, none⟩) hb).trans hc3
      have hbw : b < wr.heap.size := Nat.lt_of_lt_of_le hb hzw
      have hbw2 : b2 < wr.heap.size := Nat.lt_of_lt_of_le hb2 hzw
      have hi1 : (i : Int) < (n : Int) := by omega
      have hi0 : (0 : Int) ≤ (i : Int) := by omega
      clear hd'
      generalize xs[i] = x at hc0 hc1 hc2 hc3 HST
      generalize on[i] = o at hd HST
      obtain ⟨vA, vc, hvv⟩ := HV.out.slice
      have hln : (runL (xs.take i) (on.take i)).length ≤ 1048576 := Nat.le_trans runL_len (by rw [List.length_take]; omega)
      have HVO := Lib.hid hvv
      generalize hll : (runL (xs.take i) (on.take i)).length = ll at hvv hln
      have HLL := Lib.hid hll; clear hll
      subst hvv
      cases o with
      | true =>
        have hblk := HV.out.blk
        have HBLK := Lib.hid hblk; clear hblk
        have HL2 := Lib.hid (Own.lit (k := 4) (c := r4C) (B := w.heap.size) (wr.alloc (.cells #[.int .i64 x.a, .int .i64 x.b, .int .i64 x.c, .int .i64 x.d] 27)) 27 #[.int .i64 x.a, .int .i64 x.b, .int .i64 x.c, .int .i64 x.d] 1 [x] (by rw [World.size_alloc]; omega) rfl (by omega) rfl)
        have HR3 : Hid (Reads 4 r4C ((wr.alloc (.cells #[.int .i64 x.a, .int .i64 x.b, .int .i64 x.c, .int .i64 x.d] 27)).alloc (.cells #[.int .i64 x.a, .int .i64 x.b, .int .i64 x.c, .int .i64 x.d] 27)) ((wr.alloc (.cells #[.int .i64 x.a, .int .i64 x.b, .int .i64 x.c, .int .i64 x.d] 27)).alloc (.cells #[.int .i64 x.a, .int .i64 x.b, .int .i64 x.c, .int .i64 x.d] 27)).heap.size (some ⟨wr.heap.size + 1, 0, none⟩) [x]) := by
          unfold Hid
          have h := (HL2.out.reads rfl).1
          simpa only [World.size_alloc] using h
        have HV3 := Lib.hid ((HV.out.alloc (.cells #[.int .i64 x.a, .int .i64 x.b, .int .i64 x.c, .int .i64 x.d] 27)).alloc (.cells #[.int .i64 x.a, .int .i64 x.b, .int .i64 x.c, .int .i64 x.d] 27))
        go_wp2_with (first
          | (at_builtin
             refine wpList_app (k := 4) (c := r4C) _ rfl _ _ _ rfl 27 (.agg (Array.replicate 4 (.int .i64 0))) 32 Tryd.underlying23 (by kernel_rfl) rfl (by decide) (by decide) r4C_one _ _ _ rfl HV3.out _ _ _ _ rfl HR3.out ?hm ?hlen ?hB ?_
             case hm => rfl
             case hlen => have := HLL.out; simp only [List.length_cons, List.length_nil]; omega
             case hB => rw [World.size_alloc, World.size_alloc]; omega
             intro v4 w4 hown4 hg4 hat4
             have HB4 : Hid (Below w.heap.size w w4) := ((HB.out.alloc hzw _).alloc (by rw [World.size_alloc]; omega) _).grown hg4 (by rw [World.size_alloc, World.size_alloc]; omega) (fun k hk => (HBLK.out k hk).1)
             have HO4 := Lib.hid hown4
             clear hown4 hg4 hat4))
        refine ⟨⟨i + 1, by go_num, by omega, ?_, HB4⟩, by simp [intOf]; omega⟩
        unfold Hid; rw [HST.out]; simpa using HO4.out
      | false =>
        go_wp2_with fail
        refine ⟨⟨i + 1, by go_num, by omega, ?_, ?_⟩, by simp [intOf]; omega⟩
        · unfold Hid; rw [HST.out]; simpa using HV.out.alloc _
        · unfold Hid; exact HB.out.alloc hzw _
    · have hV := HV.out.res
      rw [List.take_of_length_le (by rw [HN.out]; omega), List.take_of_length_le (by rw [HM.out, HN.out]; omega)] at hV
      have HV2 := Lib.hid hV; clear hV
      go_wp2
      go_ret
      exact ⟨_, rfl, HV2.out, HB.out⟩
end Go.Proofs.YtcpopbkcphpdfaaDoor
