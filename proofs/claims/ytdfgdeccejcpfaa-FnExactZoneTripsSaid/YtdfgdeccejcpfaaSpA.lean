/- The reference's validity, and what is reached. -/
import Derived.Test.YtdfgdeccejcpfaaZoC
import Derived.Test.YtdfgdeccejcpfaaCyc
import Derived.Test.YtdfgdeccejcpfaaHas
import Derived.Test.YtdfgdeccejcpfaaAppG
namespace Go.Proofs.Ytdfgdeccejcpfaa
open Go.RowKit Go.Deep
set_option linter.unusedSimpArgs false
set_option linter.unusedVariables false

theorem specStateValid_any (B : Int) (A A1 : Option Addr) (c c1 : Nat) (ls : List R3) (on : List Bool) (w : World) (hR : Reads 3 r3C w w.heap.size A ls) (hl : ls.length ≤ 1048576) (hl1 : on.length ≤ 1048576) :
    Calls Try.prog 76 #[.agg #[.int .i64 B, .slice A ls.length c], .slice A1 on.length c1] w fun e w' => e = .returned (.bool (stV B ls on)) ∧ Below w.heap.size w w' := by
  have HR := Lib.hid hR
  clear hR
  by_cases hv : NetP B ls
  · have hv2 := netV_t.2 hv
    by_cases he : on.length = ls.length
    · have hs := stV_t.2 ⟨hv, he⟩
      have he2 : ((on.length : Int) == (ls.length : Int)) = true := by simp [he]
      rw [hs]
      clear hs hv he
      go_enter Try.func76, Try.ntmps76
      go_wp2_with fail; ((with_reducible refine (specNetValid_any B A c ls _ (HR.out.alloc _) hl).mono ?_); rintro e w1 ⟨rfl, hb_1⟩); have cB0_1 := keepB hb_1 (g := w.heap.size) (by go_size); have fB0_1 := keepF hb_1 (g := w.heap.size) (by go_size); have zB0_1 := keepZ hb_1 (g := w.heap.size) (by go_size); have hz_1 := hb_1.size; (try simp only [World.size_alloc, World.size_setCell, World.size_drew] at hz_1)
      go_wp2
      go_ret
      refine ⟨rfl, ?_⟩; (repeat' (first | (with_reducible exact Below.refl _ _) | (with_reducible refine Below.alloc ?_ ?_ _) | (with_reducible refine Below.setCell ?_ ?_ _) | (with_reducible refine Below.drew ?_) | (refine Below.trans ?_ (Below.mono (by with_reducible assumption) ?_)) | go_size))
    · have hs : stV B ls on = false := stV_f.2 (fun h => he h.2)
      have he2 : ((on.length : Int) == (ls.length : Int)) = false := by simp; omega
      rw [hs]
      clear hs hv he
      go_enter Try.func76, Try.ntmps76
      go_wp2_with fail; ((with_reducible refine (specNetValid_any B A c ls _ (HR.out.alloc _) hl).mono ?_); rintro e w1 ⟨rfl, hb_2⟩); have cB0_2 := keepB hb_2 (g := w.heap.size) (by go_size); have fB0_2 := keepF hb_2 (g := w.heap.size) (by go_size); have zB0_2 := keepZ hb_2 (g := w.heap.size) (by go_size); have hz_2 := hb_2.size; (try simp only [World.size_alloc, World.size_setCell, World.size_drew] at hz_2)
      go_wp2
      go_ret
      refine ⟨rfl, ?_⟩; (repeat' (first | (with_reducible exact Below.refl _ _) | (with_reducible refine Below.alloc ?_ ?_ _) | (with_reducible refine Below.setCell ?_ ?_ _) | (with_reducible refine Below.drew ?_) | (refine Below.trans ?_ (Below.mono (by with_reducible assumption) ?_)) | go_size))
  · have hv2 := netV_f.2 hv
    have hs : stV B ls on = false := stV_f.2 (fun h => hv h.1)
    rw [hs]
    clear hs hv
    go_enter Try.func76, Try.ntmps76
    go_wp2_with fail; ((with_reducible refine (specNetValid_any B A c ls _ (HR.out.alloc _) hl).mono ?_); rintro e w1 ⟨rfl, hb_3⟩); have cB0_3 := keepB hb_3 (g := w.heap.size) (by go_size); have fB0_3 := keepF hb_3 (g := w.heap.size) (by go_size); have zB0_3 := keepZ hb_3 (g := w.heap.size) (by go_size); have hz_3 := hb_3.size; (try simp only [World.size_alloc, World.size_setCell, World.size_drew] at hz_3)
    go_wp2
    go_ret
    refine ⟨rfl, ?_⟩; (repeat' (first | (with_reducible exact Below.refl _ _) | (with_reducible refine Below.alloc ?_ ?_ _) | (with_reducible refine Below.setCell ?_ ?_ _) | (with_reducible refine Below.drew ?_) | (refine Below.trans ?_ (Below.mono (by with_reducible assumption) ?_)) | go_size))
theorem set_new (w : World) (g : Nat) (cs : Array Value) (t : TypeId) (i : Nat) (v : Value) (hg : g = w.heap.size) : (w.alloc (.cells cs t)).setCell ⟨g, i, none⟩ v = w.alloc (.cells (cs.setIfInBounds i v) t) := by
  exact World.setCell_alloc_at cs t g i v hg
/-- A call returns a row that reads as the list of truths. -/
def RetBo (w : World) (n : Nat) (xs : List Bool) (e : Ending) (w' : World) : Prop := ∃ A c, e = .returned (.slice A n c) ∧ Reads 1 boolC w' w'.heap.size A xs ∧ Below w.heap.size w w'
theorem relax_yes {ls : List R3} {on s : List Bool} {k a b : Nat} (ha : lA ls k = a) (hb : lB ls k = b) (h1 : on.getD k false = true) (h2 : s.getD a false = true ∨ s.getD b false = true) : relax ls on s k = (s.set a true).set b true := by
  subst ha; subst hb; unfold relax; rw [if_pos ⟨h1, h2⟩]
theorem relax_no {ls : List R3} {on s : List Bool} {k a b : Nat} (ha : lA ls k = a) (hb : lB ls k = b) (h : ¬ (on.getD k false = true ∧ (s.getD a false = true ∨ s.getD b false = true))) : relax ls on s k = s := by
  subst ha; subst hb; unfold relax; rw [if_neg h]
theorem roundTo_len {ls : List R3} {on s : List Bool} (k : Nat) : (roundTo ls on s k).length = s.length := (roundTo_le k).1.symm
theorem rounds_len {ls : List R3} {on s : List Bool} (k : Nat) : (rounds ls on s k).length = s.length := (rounds_le k).1.symm
set_option maxRecDepth 100000 in
set_option maxHeartbeats 8000000 in
theorem l3Reach_any (n : Nat) (A A1 : Option Addr) (c c1 : Nat) (ls : List R3) (on : List Bool) (bus : Nat) (w : World) (hN : NetP n ls) (hle : on.length = ls.length) (hbus : bus < n) (hR : Reads 3 r3C w w.heap.size A ls) (hR1 : Reads 1 boolC w w.heap.size A1 on) :
    Calls Try.prog 84 #[.agg #[.int .i64 (n : Int), .slice A ls.length c], .slice A1 on.length c1, .int .i64 (bus : Int)] w (RetS 1 boolC 4 w (reach ls on n bus)) := by
  have HR := Lib.hid hR; have HR1 := Lib.hid hR1
  clear hR hR1
  have hn8 : n ≤ 8 := by have := hN.2.1; omega
  have hm10 := hN.2.2.1
  have HN := Lib.hid hN
  clear hN
  have HLE := Lib.hid hle
  rw [hle]
  clear hle
  obtain ⟨m, hm⟩ : ∃ m, ls.length = m := ⟨_, rfl⟩
  have HML := Lib.hid hm
  rw [hm] at hm10 ⊢
  clear hm
  have hmk := fun W => run_mk (P := Try.prog) 36 4 (.bool false) 1 1 n Try.underlying36 (by kernel_rfl) (by omega) (by omega) W
  simp only [Nat.mul_one] at hmk
  generalize hs0 : (List.replicate n false).set bus true = s0
  have hs0l : s0.length = n := by rw [← hs0]; simp
  have HS0 := Lib.hid hs0
  have h0 : RowL bV false ((w.alloc (.cells #[.int .i64 (n : Int), .slice A m c] 30)).alloc (.cells (madeCells #[Value.bool false] n) 4)) (w.heap.size + 1) 4 (List.replicate n false) := by
    have h := RowL.made (f := bV) (d := false) (w.alloc (.cells #[.int .i64 (n : Int), .slice A m c] 30)) n 4
    rw [World.size_alloc] at h; exact h
  have c0 := h0.cell (i := bus) (by simpa using hbus)
  have f0 := h0.frozen
  have h1 := h0.set (i := bus) (by simpa using hbus) true
  rw [hs0] at h1
  unfold bV at c0
  have HRow0 : Hid (RowL bV false (((w.alloc (.cells #[.int .i64 (n : Int), .slice A m c] 30)).alloc (.cells (madeCells #[Value.bool false] n) 4)).setCell ⟨w.heap.size + 1, bus, none⟩ (.bool true)) (w.heap.size + 1) 4 s0) := h1
  have HK0 : Hid (Bk (((w.alloc (.cells #[.int .i64 (n : Int), .slice A m c] 30)).alloc (.cells (madeCells #[Value.bool false] n) 4)).setCell ⟨w.heap.size + 1, bus, none⟩ (.bool true)) w.heap.size 30 #[.int .i64 (n : Int), .slice A m c]) := ((Bk.new _ _ _).alloc _).far (p := ⟨w.heap.size + 1, bus, none⟩) (by show w.heap.size ≠ w.heap.size + 1; omega) _
  have HB0 : Hid (Below w.heap.size w (((w.alloc (.cells #[.int .i64 (n : Int), .slice A m c] 30)).alloc (.cells (madeCells #[Value.bool false] n) 4)).setCell ⟨w.heap.size + 1, bus, none⟩ (.bool true))) := by unfold Hid; (repeat' (first | (with_reducible exact Below.refl _ _) | (with_reducible refine Below.alloc ?_ ?_ _) | (with_reducible refine Below.setCell ?_ ?_ _) | (with_reducible refine Below.drew ?_) | (refine Below.trans ?_ (Below.mono (by with_reducible assumption) ?_)) | go_size))
  clear h1 hs0 h0
  have hwq := Go.Proofs.Ytdfgdeccejcpfaa.set_new (w.alloc (.cells #[.int .i64 (n : Int), .slice A m c] 30)) (w.heap.size + 1) (madeCells #[Value.bool false] n) 4 bus (.bool true) (by simp)
  rw [hwq] at HRow0 HK0 HB0
  clear hwq
  have hbn : (bus : Int) < (n : Int) := by omega
  go_enter Try.func84, Try.ntmps84
  go_wp2_with fail
  go_loopw [8] (fun t wr => ∃ j : Nat, t = .int .i64 j ∧ j ≤ n ∧ Hid (RowL bV false wr (w.heap.size + 1) 4 (rounds ls on s0 j)) ∧ Hid (Bk wr w.heap.size 30 #[.int .i64 (n : Int), .slice A m c]) ∧ Hid (Below w.heap.size w wr)) (fun t _ => n - (intOf t).toNat)
  case atStart => exact ⟨0, rfl, Nat.zero_le _, HRow0, HK0, HB0⟩
  case round =>
    obtain ⟨j, rfl, hj, HRow, HK, HB⟩ := hrel
    clear HRow0 HK0 HB0 c0 f0 hmk
    have cK := HK.out.cell; have zK := HK.out.lt
    by_cases hlt : j < n
    · have hj1 : (j : Int) < (n : Int) := by omega
      have hsl : (rounds ls on s0 j).length = n := by rw [rounds_len]; exact hs0l
      have hnext : rounds ls on s0 (j + 1) = roundTo ls on (rounds ls on s0 j) m := by show roundTo ls on (rounds ls on s0 j) ls.length = _; rw [HML.out]
      generalize rounds ls on s0 j = s at HRow hsl hnext
      have HNX := Lib.hid hnext
      clear hnext
      go_wp2_with fail
      go_loopw [9] (fun t wr => ∃ k : Nat, t = .int .i64 k ∧ k ≤ m ∧ Hid (RowL bV false wr (w.heap.size + 1) 4 (roundTo ls on s k)) ∧ Hid (Bk wr w.heap.size 30 #[.int .i64 (n : Int), .slice A m c]) ∧ Hid (Below w.heap.size w wr)) (fun t _ => m - (intOf t).toNat)
      case atStart => exact ⟨0, rfl, Nat.zero_le _, HRow, HK, HB⟩
      case round =>
        clear HRow HK HB cK zK
        obtain ⟨k, rfl, hk, HRow, HK, HB⟩ := hrel
        have cK := HK.out.cell; have zK := HK.out.lt
        by_cases hkm : k < m
        · have hx : k < ls.length := by rw [HML.out]; exact hkm
          have hy : k < on.length := by rw [HLE.out]; exact hx
          have hk1 : (k : Int) < (m : Int) := by omega
          obtain ⟨lb, lo, rfl, hlb, hc0, hc1, hc2⟩ := HR.out.at3 hx
          have hc0 := (HB.out.cell (p := ⟨lb, lo + k * 3, none⟩) hlb).trans hc0
          have hc1 := (HB.out.cell (p := ⟨lb, lo + k * 3 + 1, none⟩) hlb).trans hc1
          have hc2 := (HB.out.cell (p := ⟨lb, lo + k * 3 + 2, none⟩) hlb).trans hc2
          obtain ⟨nb, no, rfl, hnb, hd⟩ := HR1.out.at1 hy
          have hd0 : wr.cell? ⟨nb, no + k, none⟩ = some (.bool on[k]) := (HB.out.cell (p := ⟨nb, no + k, none⟩) hnb).trans hd
          have hzw := HB.out.size
          have hnbz : nb < wr.heap.size := by omega
          obtain ⟨l1, l2, l3, l4, l5⟩ := HN.out.line hx
          rw [l1] at hc0
          rw [l2] at hc1
          have hog : on.getD k false = on[k] := getD_lt hy false
          generalize on[k] = o at hd0 hog
          generalize ls[k].c = z2 at hc2
          have hnxt : roundTo ls on s (k + 1) = relax ls on (roundTo ls on s k) k := rfl
          have hrl : (roundTo ls on s k).length = n := by rw [roundTo_len]; exact hsl
          generalize roundTo ls on s k = u at HRow hnxt hrl
          have ha : lA ls k < n := by omega
          have hb : lB ls k < n := by omega
          have hrelY := fun (h1 : on.getD k false = true) h2 => relax_yes (ls := ls) (s := u) (k := k) (a := lA ls k) (b := lB ls k) rfl rfl h1 h2
          have hrelN := fun h => relax_no (ls := ls) (on := on) (s := u) (k := k) (a := lA ls k) (b := lB ls k) rfl rfl h
          have hab := l5
          generalize lA ls k = a at hc0 ha hrelY hrelN hab
          generalize lB ls k = b at hc1 hb hrelY hrelN hab
          have hba : b ≠ a := fun e => hab e.symm
          have ca := HRow.out.cell (i := a) (by omega)
          have cb := HRow.out.cell (i := b) (by omega)
          have fr := HRow.out.frozen; have zr := HRow.out.lt
          unfold bV at ca cb
          obtain ⟨sa, hsa⟩ : ∃ x, u.getD a false = x := ⟨_, rfl⟩
          obtain ⟨sb, hsb⟩ : ∃ x, u.getD b false = x := ⟨_, rfl⟩
          rw [hsa] at ca hrelY hrelN
          rw [hsb] at cb hrelY hrelN
          rw [hog] at hrelY hrelN
          have ha1 : (a : Int) < (n : Int) := by omega
          have hb1 : (b : Int) < (n : Int) := by omega
          have HNT := Lib.hid hnxt; have HRY := Lib.hid hrelY; have HRN := Lib.hid hrelN; have HUL := Lib.hid hrl
          clear hnxt hrelY hrelN hog hsa hsb hd l1 l2 l3 l4 l5 hrl
          have HKN : Hid (Bk (wr.alloc (.cells #[.int .i64 (a : Int), .int .i64 (b : Int), .int .i64 z2] 85)) w.heap.size 30 #[.int .i64 (n : Int), .slice (some ⟨lb, lo, none⟩) m c]) := HK.out.alloc _
          have HRN2 := Lib.hid (HRow.out.alloc (.cells #[.int .i64 (a : Int), .int .i64 (b : Int), .int .i64 z2] 85))
          have HBN : Hid (Below w.heap.size w (wr.alloc (.cells #[.int .i64 (a : Int), .int .i64 (b : Int), .int .i64 z2] 85))) := HB.out.alloc HB.out.size _
          have HYES : Hid (relax ls on u k = (u.set a true).set b true → (RowL bV false (((wr.setCell ⟨w.heap.size + 1, a, none⟩ (.bool true)).setCell ⟨w.heap.size + 1, b, none⟩ (.bool true)).alloc (.cells #[.int .i64 (a : Int), .int .i64 (b : Int), .int .i64 z2] 85)) (w.heap.size + 1) 4 (roundTo ls on s (k + 1)) ∧ Bk (((wr.setCell ⟨w.heap.size + 1, a, none⟩ (.bool true)).setCell ⟨w.heap.size + 1, b, none⟩ (.bool true)).alloc (.cells #[.int .i64 (a : Int), .int .i64 (b : Int), .int .i64 z2] 85)) w.heap.size 30 #[.int .i64 (n : Int), .slice (some ⟨lb, lo, none⟩) m c] ∧ Below w.heap.size w (((wr.setCell ⟨w.heap.size + 1, a, none⟩ (.bool true)).setCell ⟨w.heap.size + 1, b, none⟩ (.bool true)).alloc (.cells #[.int .i64 (a : Int), .int .i64 (b : Int), .int .i64 z2] 85)))) := by
            intro h
            refine ⟨?_, ?_, ?_⟩
            · rw [HNT.out, h]
              exact ((HRow.out.set (by rw [HUL.out]; exact ha) true).set (by rw [List.length_set, HUL.out]; exact hb) true).alloc _
            · exact ((HK.out.far (p := ⟨w.heap.size + 1, a, none⟩) (by show w.heap.size ≠ w.heap.size + 1; omega) _).far (p := ⟨w.heap.size + 1, b, none⟩) (by show w.heap.size ≠ w.heap.size + 1; omega) _).alloc _
            · have hB := HB.out; (repeat' (first | (with_reducible exact Below.refl _ _) | (with_reducible refine Below.alloc ?_ ?_ _) | (with_reducible refine Below.setCell ?_ ?_ _) | (with_reducible refine Below.drew ?_) | (refine Below.trans ?_ (Below.mono (by with_reducible assumption) ?_)) | go_size))
          have hne : w.heap.size + 1 ≠ w.heap.size := by omega
          have hnw : w.heap.size ≠ w.heap.size + 1 := by omega
          cases o with
          | false =>
            have HE : Hid (RowL bV false (wr.alloc (.cells #[.int .i64 (a : Int), .int .i64 (b : Int), .int .i64 z2] 85)) (w.heap.size + 1) 4 (roundTo ls on s (k + 1))) := by unfold Hid; rw [HNT.out, HRN.out (fun h => by cases h.1)]; exact HRN2.out
            clear HYES
            go_wp2_with fail
            exact ⟨⟨k + 1, by go_num, by omega, HE, HKN, HBN⟩, by simp [intOf]; omega⟩
          | true =>
            cases sa with
            | true =>
              have HY := Lib.hid (HYES.out (HRY.out rfl (.inl rfl)))
              clear HYES
              go_wp2_with fail
              exact ⟨⟨k + 1, by go_num, by omega, HY.out.1, HY.out.2.1, HY.out.2.2⟩, by simp [intOf]; omega⟩
            | false =>
              cases sb with
              | true =>
                have HY := Lib.hid (HYES.out (HRY.out rfl (.inr rfl)))
                clear HYES
                go_wp2_with fail
                exact ⟨⟨k + 1, by go_num, by omega, HY.out.1, HY.out.2.1, HY.out.2.2⟩, by simp [intOf]; omega⟩
              | false =>
                have HE : Hid (RowL bV false (wr.alloc (.cells #[.int .i64 (a : Int), .int .i64 (b : Int), .int .i64 z2] 85)) (w.heap.size + 1) 4 (roundTo ls on s (k + 1))) := by unfold Hid; rw [HNT.out, HRN.out (fun h => by rcases h.2 with h | h <;> cases h)]; exact HRN2.out
                clear HYES
                go_wp2_with fail
                exact ⟨⟨k + 1, by go_num, by omega, HE, HKN, HBN⟩, by simp [intOf]; omega⟩
        · obtain rfl : k = m := by omega
          have HE : Hid (RowL bV false wr (w.heap.size + 1) 4 (rounds ls on s0 (j + 1))) := by unfold Hid; rw [HNX.out]; exact HRow.out
          go_wp2_with fail
          exact ⟨⟨j + 1, by go_num, by omega, HE, HK, HB⟩, by simp [intOf]; omega⟩
    · obtain rfl : j = n := by omega
      have HE : Hid (RowL bV false wr (w.heap.size + 1) 4 (reach ls on j bus)) := by unfold Hid reach; rw [HS0.out]; exact HRow.out
      go_wp2_with fail
      go_ret
      exact ⟨_, rfl, HE.out.resB (by omega) reach_len.symm, HB.out⟩
end Go.Proofs.Ytdfgdeccejcpfaa
