/- The reference's islands and cycles. -/
import Derived.Test.YtdfgdeccejcpfaaSpA
import Derived.Deep.RegionHeld3
import Derived.Deep.DeepCutAuto
namespace Go.Proofs.Ytdfgdeccejcpfaa
open Go.RowKit Go.Deep
set_option linter.unusedSimpArgs false
set_option linter.unusedVariables false

theorem idxL_succ (p : Nat → Bool) (n : Nat) : idxL p (n + 1) = idxL p n ++ if p n then [(n : Int)] else [] := rfl
set_option maxRecDepth 100000 in
set_option maxHeartbeats 8000000 in
theorem reached_any (n : Nat) (A A1 : Option Addr) (c c1 : Nat) (ls : List R3) (on : List Bool) (bus : Nat) (w : World) (hN : NetP n ls) (hle : on.length = ls.length) (hbus : bus < n) (hR : Reads 3 r3C w w.heap.size A ls) (hR1 : Reads 1 boolC w w.heap.size A1 on) :
    Calls Try.prog 73 #[.agg #[.int .i64 (n : Int), .slice A ls.length c], .slice A1 on.length c1, .int .i64 (bus : Int)] w (RetS 1 intC 3 w (idxL (fun k => (reach ls on n bus).getD k false) n)) := by
  have HR := Lib.hid hR; have HR1 := Lib.hid hR1
  clear hR hR1
  have hn8 : n ≤ 8 := by have := hN.2.1; omega
  have hm10 := hN.2.2.1
  have HN := Lib.hid hN
  clear hN
  have HLE := Lib.hid hle
  have hsv : Hid (stV n ls on = true) := stV_t.2 ⟨HN.out, hle⟩
  have hl1 : on.length ≤ 1048576 := by omega
  have hl : ls.length ≤ 1048576 := by omega
  have HL := Lib.hid (And.intro hl hl1)
  clear hle hl hl1
  have hi0 : inB (bus : Int) 0 ((n : Int) - 1) = true := inB_t.2 (by omega)
  have HRX : ∀ W, Below w.heap.size w W → Reads 3 r3C W W.heap.size A ls ∧ Reads 1 boolC W W.heap.size A1 on := fun W h => ⟨(HR.out.below h (Nat.le_refl _)).more h.size, (HR1.out.below h (Nat.le_refl _)).more h.size⟩
  have HRD := Lib.hid HRX; clear HRX
  go_enter Try.func73, Try.ntmps73
  go_wp2_with fail
  refine (specStateValid_any (n : Int) A A1 c c1 ls on _ (HRD.out _ (by (repeat' (first | (with_reducible exact Below.refl _ _) | (with_reducible refine Below.alloc ?_ ?_ _) | (with_reducible refine Below.setCell ?_ ?_ _) | (with_reducible refine Below.drew ?_) | (refine Below.trans ?_ (Below.mono (by with_reducible assumption) ?_)) | go_size)))).1 HL.out.1 HL.out.2).mono ?_
  rintro e w1 ⟨rfl, hb1⟩
  rw [hsv.out]
  have HG1 : Hid (Bk w1 w.heap.size 30 #[.int .i64 (n : Int), .slice A ls.length c]) := ((Bk.new _ _ _).alloc _).keep hb1
  have HO1 : Hid (Own 1 intC 3 w1 (w.heap.size + 1) (.slice (some ⟨w.heap.size + 1, 0, none⟩) 0 0) ([] : List Int)) := by
    have h := Own.lit (k := 1) (c := intC) (B := w.heap.size + 1) (w.alloc (.cells #[.int .i64 (n : Int), .slice A ls.length c] 30)) 3 #[] 0 [] (by simp) rfl (by omega) rfl
    simp only [World.size_alloc] at h
    exact h.keep hb1
  have HB1 : Hid (Below w.heap.size w w1) := by unfold Hid; (repeat' (first | (with_reducible exact Below.refl _ _) | (with_reducible refine Below.alloc ?_ ?_ _) | (with_reducible refine Below.setCell ?_ ?_ _) | (with_reducible refine Below.drew ?_) | (refine Below.trans ?_ (Below.mono (by with_reducible assumption) ?_)) | go_size))
  clear hb1
  have cK := HG1.out.cell; have zK := HG1.out.lt
  go_wp2_with (go_at_call 38; (with_reducible refine (l1In_any _ _ _ _).mono ?_); rintro e w' ⟨rfl, rfl⟩)
  refine (l3Reach_any n A A1 c c1 ls on bus w1 HN.out HLE.out hbus (HRD.out _ HB1.out).1 (HRD.out _ HB1.out).2).mono ?_
  rintro e w2 ⟨sv, rfl, hrs, hb2⟩
  have HG2 := Lib.hid (HG1.out.keep hb2)
  have HO2 := Lib.hid (HO1.out.keep hb2)
  have HB2 : Hid (Below w.heap.size w w2) := HB1.out.trans (hb2.mono HB1.out.size)
  have HRS := Lib.hid hrs
  obtain ⟨sA, sc, rfl, -⟩ := hrs
  have hw12 := hb2.size
  have hw1 : w.heap.size + 1 < w1.heap.size := by have := HO1.out.blk (w.heap.size + 1) rfl; omega
  clear hb2 HG1 HO1 HB1 cK zK hi0
  have HRL : Hid ((reach ls on n bus).length = n) := reach_len
  have hrl0 : (reach ls on n bus).length = n := HRL.out
  generalize hrq : reach ls on n bus = rs at HRS HRL hrl0 ⊢
  have HRQ := Lib.hid hrq; clear hrq
  rw [hrl0]
  clear hrl0
  generalize hpp : (fun k => rs.getD k false) = p
  have HPP := Lib.hid hpp; clear hpp
  have hBz : w.heap.size + 1 ≤ w2.heap.size := by have := HG2.out.lt; omega
  go_wp2_with fail
  go_loopw [7, 9] (fun t7 t9 wr => ∃ i : Nat, t9 = .int .i64 i ∧ i ≤ n ∧ Hid (Own 1 intC 3 wr (w.heap.size + 1) t7 (idxL p i)) ∧ Hid (Bk wr w.heap.size 30 #[.int .i64 (n : Int), .slice A ls.length c]) ∧ Hid (∀ q, t7.ownBlock = some q → q = w.heap.size + 1 ∨ w2.heap.size ≤ q) ∧ w2.heap.size ≤ wr.heap.size ∧ Hid (∀ b, w1.heap.size ≤ b → b < w2.heap.size → wr.heap[b]? = w2.heap[b]?) ∧ Hid (Below w.heap.size w wr)) (fun _ t9 _ => n - (intOf t9).toNat)
  case atStart => exact ⟨0, rfl, Nat.zero_le _, HO2, HG2, fun q hq => by injection hq with hq; exact .inl hq.symm, Nat.le_refl _, fun _ _ _ => rfl, HB2⟩
  case round =>
    obtain ⟨i, rfl, hi, HO, HK, HOB, hzw, HKB, HB⟩ := hrel
    clear HO2 HG2
    have cK := HK.out.cell; have zK := HK.out.lt
    by_cases hlt : i < n
    · have hrl : i < rs.length := by rw [HRL.out]; exact hlt
      obtain ⟨b, o, rfl, hb, hc⟩ := (HRS.out.kept HKB.out).reads.1.at1 hrl
      have hc0 : wr.cell? ⟨b, o + i, none⟩ = some (.bool rs[i]) := hc
      have hpi : p i = rs[i] := by rw [← HPP.out]; exact getD_lt hrl false
      generalize rs[i] = z at hc0 hpi
      have HPI := Lib.hid hpi
      clear hc hpi
      have hi1 : (i : Int) < (n : Int) := by omega
      cases z with
      | true =>
        obtain ⟨vA, vc, hv⟩ := HO.out.slice
        have hil := idxL_len p i
        subst hv
        have HL_1 := Lib.hid (Own.lit (k := 1) (c := intC) (B := (w.heap.size + 1)) wr 3 #[.int .i64 i] 1 [(i : Int)] (by first | exact Nat.le_refl _ | omega) rfl (by omega) rfl); have HQ_1 := Lib.hid (HL_1.out.reads rfl).1; have HV_1 := Lib.hid (Own.alloc (HO.out) (.cells #[.int .i64 i] 3)); have HK_1 := Lib.hid (Own.blk (HO.out)); go_wp2_with (first | (at_builtin; refine wpList_app_g (k := 1) (c := intC) _ (by rfl) _ _ _ rfl 3 (.int .i64 0) 8 Try.underlying25 (by kernel_rfl) rfl (by decide) (by decide) intC_one _ _ _ rfl HV_1.out _ _ _ _ rfl HQ_1.out ?hm ?hlen ?hB ?_; (case hm => (first | rfl | (simp; done) | omega)); (case hlen => (simp only [List.length_cons, List.length_nil]; omega)); (case hB => ((try simp only [World.size_alloc, World.size_drew]); omega)); intro v_1 w_1 hown_1 hg_1 hat_1; have HW_1 : Hid (Below ((w.heap.size + 1)) (wr) w_1) := (Below.alloc (Below.refl _ _) (by first | exact Nat.le_refl _ | omega) _).grown hg_1 (by (try simp only [World.size_alloc]); omega) (fun q hq => (HK_1.out q hq).1); have HG_1 := Lib.hid hg_1; have HAT_1 := Lib.hid hat_1; have HO_1 := Lib.hid hown_1; obtain ⟨A_1, c_1, hv_1⟩ := hown_1.slice; simp only [List.length_append, List.length_cons, List.length_nil, Nat.zero_add] at hv_1; subst hv_1; have hz_1 := HG_1.out.size; (try simp only [World.size_alloc] at hz_1); clear hown_1 hg_1 hat_1 HL_1 HQ_1 HV_1))
        have HON : Hid (Own 1 intC 3 w_1 (w.heap.size + 1) (.slice A_1 ((idxL p i).length + 1) c_1) (idxL p (i + 1))) := by unfold Hid; rw [idxL_succ, HPI.out]; exact HO_1.out
        have HKN : Hid (Bk w_1 w.heap.size 30 #[.int .i64 (n : Int), .slice A ls.length c]) := (HK.out.alloc _).grown HG_1.out (fun e => by have := (HK_1.out _ e.symm).1; omega)
        have HBN : Hid (Below w.heap.size w w_1) := HB.out.trans (HW_1.out.mono (by omega))
        have HKBN : Hid (∀ b, w1.heap.size ≤ b → b < w2.heap.size → w_1.heap[b]? = w2.heap[b]?) := fun q h1 h2 =>
          (HG_1.out.block q (by rw [World.size_alloc]; omega) (fun e => by rcases HOB.out q e.symm with h | h <;> omega)).trans ((Below.heap_alloc wr _ q (by omega)).trans (HKB.out q h1 h2))
        have HOBN : Hid (∀ q, (Value.slice A_1 ((idxL p i).length + 1) c_1).ownBlock = some q → q = w.heap.size + 1 ∨ w2.heap.size ≤ q) := fun q hq => by
          rcases HAT_1.out with h | h
          · rw [h] at hq; exact HOB.out q hq
          · rw [h] at hq; injection hq with hq; rw [World.size_alloc] at hq; exact .inr (by omega)
        exact ⟨⟨i + 1, by go_num, by omega, HON, HKN, HOBN, by omega, HKBN, HBN⟩, by simp [intOf]; omega⟩
      | false =>
        have HON := HO.out
        rw [show idxL p i = idxL p (i + 1) from by rw [idxL_succ, HPI.out]; simp] at HON
        have HON2 := Lib.hid HON; clear HON
        go_wp2_with fail
        exact ⟨⟨i + 1, by go_num, by omega, HON2, HK, HOB, hzw, HKB, HB⟩, by simp [intOf]; omega⟩
    · obtain rfl : i = n := by omega
      go_wp2_with fail
      go_ret
      have hres := HO.out.res
      rw [← HPP.out, ← HRQ.out] at hres
      exact ⟨_, rfl, Res.mono hres (show w.heap.size ≤ w.heap.size + 1 by omega), HB.out⟩
theorem reach_pB {n : Nat} {ls : List R3} {on : List Bool} {a b : Nat} (hE : EndsOk ls on n) (ha : a < n) (hb : b < n) : decide ((b : Int) ∈ idxL (fun k => (reach ls on n a).getD k false) n) = pB (Cn ls on a b) := by
  by_cases h : Cn ls on a b
  · rw [pB_true h]
    exact decide_eq_true (idxL_mem.2 ⟨b, rfl, hb, (reach_iff hE ha b).2 h⟩)
  · rw [pB_false h]
    refine decide_eq_false (fun hm => ?_)
    obtain ⟨k, e, _, hk⟩ := idxL_mem.1 hm
    have : k = b := by omega
    subst this
    exact h ((reach_iff hE ha k).1 hk)
theorem sameIsland_any (n : Nat) (A A1 : Option Addr) (c c1 : Nat) (ls : List R3) (on : List Bool) (a b : Nat) (w : World) (hN : NetP n ls) (hle : on.length = ls.length) (ha : a < n) (hb : b < n) (hR : Reads 3 r3C w w.heap.size A ls) (hR1 : Reads 1 boolC w w.heap.size A1 on) :
    Calls Try.prog 67 #[.agg #[.int .i64 (n : Int), .slice A ls.length c], .slice A1 on.length c1, .int .i64 (a : Int), .int .i64 (b : Int)] w fun e w' => e = .returned (.bool (pB (Cn ls on a b))) ∧ Below w.heap.size w w' := by
  have HR := Lib.hid hR; have HR1 := Lib.hid hR1
  clear hR hR1
  rw [← reach_pB (hN.ends hle rfl) ha hb]
  have HN := Lib.hid hN
  have HLE := Lib.hid hle
  have hn8 : n ≤ 8 := by have := hN.2.1; omega
  clear hN hle
  have HRX : ∀ W, Below w.heap.size w W → Reads 3 r3C W W.heap.size A ls ∧ Reads 1 boolC W W.heap.size A1 on := fun W h => ⟨(HR.out.below h (Nat.le_refl _)).more h.size, (HR1.out.below h (Nat.le_refl _)).more h.size⟩
  have HRD := Lib.hid HRX; clear HRX
  have hl8 := idxL_len (fun k => (reach ls on n a).getD k false) n
  generalize hzz : idxL (fun k => (reach ls on n a).getD k false) n = zs at hl8 ⊢
  have HZZ := Lib.hid hzz; clear hzz
  go_enter Try.func67, Try.ntmps67
  go_wp2_with fail
  refine (reached_any n A A1 c c1 ls on a _ HN.out HLE.out ha (HRD.out _ (by (repeat' (first | (with_reducible exact Below.refl _ _) | (with_reducible refine Below.alloc ?_ ?_ _) | (with_reducible refine Below.setCell ?_ ?_ _) | (with_reducible refine Below.drew ?_) | (refine Below.trans ?_ (Below.mono (by with_reducible assumption) ?_)) | go_size)))).1 (HRD.out _ (by (repeat' (first | (with_reducible exact Below.refl _ _) | (with_reducible refine Below.alloc ?_ ?_ _) | (with_reducible refine Below.setCell ?_ ?_ _) | (with_reducible refine Below.drew ?_) | (refine Below.trans ?_ (Below.mono (by with_reducible assumption) ?_)) | go_size)))).2).mono ?_
  rintro e w1 ⟨v, rfl, hres, hb1⟩
  rw [HZZ.out] at hres
  have HRS := Lib.hid hres
  obtain ⟨zA, zc, rfl, -⟩ := hres
  have HB1 : Hid (Below w.heap.size w w1) := by unfold Hid; (repeat' (first | (with_reducible exact Below.refl _ _) | (with_reducible refine Below.alloc ?_ ?_ _) | (with_reducible refine Below.setCell ?_ ?_ _) | (with_reducible refine Below.drew ?_) | (refine Below.trans ?_ (Below.mono (by with_reducible assumption) ?_)) | go_size))
  clear hb1
  go_wp2_with fail
  refine (l1Has_any zA zs.length zc zs b w1 rfl HRS.out.reads.1 (by omega)).mono ?_
  rintro e w2 ⟨rfl, rfl⟩
  go_wp2_with fail
  go_ret
  exact ⟨rfl, HB1.out⟩
end Go.Proofs.Ytdfgdeccejcpfaa
