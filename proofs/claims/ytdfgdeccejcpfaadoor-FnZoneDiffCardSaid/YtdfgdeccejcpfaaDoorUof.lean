/- Sets of buses: unionOf. -/
import Derived.Test.YtdfgdeccejcpfaaDoorCyc
namespace Go.Proofs.YtdfgdeccejcpfaaDoor
open Go.RowKit Go.Deep
set_option linter.unusedSimpArgs false
set_option linter.unusedVariables false

/-- The root of each bus behind the first k lines. -/
noncomputable def rOf (ls : List R3) (on : List Bool) : Nat → Nat → Nat
  | 0 => id
  | k + 1 => @ite _ (isOn on k) (Classical.propDecidable _) (joinR (rOf ls on k) (max (rOf ls on k (lA ls k)) (rOf ls on k (lB ls k))) (min (rOf ls on k (lA ls k)) (rOf ls on k (lB ls k)))) (rOf ls on k)
theorem rOf_off {ls : List R3} {on : List Bool} {k : Nat} (h : ¬ isOn on k) : rOf ls on (k + 1) = rOf ls on k := by simp only [rOf]; rw [if_neg h]
theorem rOf_on {ls : List R3} {on : List Bool} {k : Nat} (h : isOn on k) : rOf ls on (k + 1) = joinR (rOf ls on k) (max (rOf ls on k (lA ls k)) (rOf ls on k (lB ls k))) (min (rOf ls on k (lA ls k)) (rOf ls on k (lB ls k))) := by simp only [rOf]; rw [if_pos h]
theorem CycS.cn {ls : List R3} {on : List Bool} {n : Nat} {r u : Nat → Nat} (h : CycS ls on n ls.length r u) (hle : on.length = ls.length) {a b : Nat} (ha : a < n) (hb : b < n) : r a = r b ↔ Cn ls on a b := by
  rw [h.of a b ha hb]
  constructor
  · intro hc; exact hc.mono (fun k hk => hk.1)
  · intro hc; exact hc.mono (fun k hk => ⟨hk, by rw [← hle]; exact isOn_lt hk⟩)
set_option maxHeartbeats 4000000 in
theorem unionOf_any (n : Nat) (A A1 : Option Addr) (c c1 : Nat) (ls : List R3) (on : List Bool) (w : World) (hN : NetP n ls) (hle : on.length = ls.length) (hcy : ¬ cycP ls on) (hR : Reads 3 r3C w w.heap.size A ls) (hR1 : Reads 1 boolC w w.heap.size A1 on) :
    Calls Tryd.prog 57 #[.agg #[.int .i64 (n : Int), .slice A ls.length c], .slice A1 on.length c1] w fun e w' => ∃ u, e = .returned (.slice (some ⟨w.heap.size + 1, 0, none⟩) n n) ∧ CycS ls on n ls.length (rOf ls on ls.length) u ∧ w'.rowIs (w.heap.size + 1) 3 n (uV u) ∧ Below w.heap.size w w' := by
  have HR := Lib.hid hR; clear hR
  have HR1 := Lib.hid hR1; clear hR1
  have HN := Lib.hid hN
  have HCY := Lib.hid hcy; clear hcy
  have hn8 : n ≤ 8 := by have := hN.2.1; omega
  have hm10 : ls.length ≤ 10 := hN.2.2.1
  clear hN
  have HLE := Lib.hid hle
  rw [hle]
  clear hle
  generalize hm : ls.length = m at hm10 ⊢
  have HM := Lib.hid hm; clear hm
  go_enter Tryd.func57, Tryd.ntmps57
  go_wp2_with fail
  refine (newUnion_any n hn8 _).mono ?_
  rintro e w1 ⟨rfl, hb1, hrow1⟩
  have cB := keepB hb1 (g := w.heap.size) (by go_size)
  have zB := keepZ hb1 (g := w.heap.size) (by go_size)
  have HB1 : Hid (Below w.heap.size w w1) := by unfold Hid; (repeat' (first | (with_reducible exact Below.refl _ _) | (with_reducible refine Below.alloc ?_ ?_ _) | (with_reducible refine Below.setCell ?_ ?_ _) | (with_reducible refine Below.drew ?_) | (refine Below.trans ?_ (Below.mono (by with_reducible assumption) ?_)) | go_size))
  simp only [World.size_alloc] at hrow1
  have HRow1 := Lib.hid hrow1
  clear hb1 hrow1
  have hsz : (w.alloc (.cells #[.int .i64 (n : Int), .slice A m c] 25)).heap.size = w.heap.size + 1 := World.size_alloc _ _
  rw [hsz]
  clear hsz
  go_wp2_with fail
  go_loopw [14] (fun t wr => ∃ (k : Nat) (r u : Nat → Nat), t = .int .i64 k ∧ k ≤ m ∧ Hid (r = rOf ls on k) ∧ Hid (CycS ls on n k r u) ∧ Hid (wr.rowIs (w.heap.size + 1) 3 n (uV u)) ∧ Hid (Below w.heap.size w wr)) (fun t _ => m - (intOf t).toNat)
  case atStart => exact ⟨0, id, id, rfl, Nat.zero_le _, rfl, CycS.start _ _ _, HRow1, HB1⟩
  case round =>
    obtain ⟨k, r, u, rfl, hk, HRF, HC, HRow, HB⟩ := hrel
    clear HRow1 HB1 cB zB
    have hzr := HRow.out.lt
    by_cases hlt : k < m
    · have hx : k < ls.length := by rw [HM.out]; exact hlt
      have hy : k < on.length := by rw [HLE.out]; exact hx
      have hi1 : (k : Int) < (m : Int) := by omega
      obtain ⟨b, off, rfl, hb, hc0, hc1, hc2⟩ := HR.out.at3 hx
      have hc0 := (HB.out.cell (p := ⟨b, off + k * 3, none⟩) hb).trans hc0
      have hc1 := (HB.out.cell (p := ⟨b, off + k * 3 + 1, none⟩) hb).trans hc1
      have hc2 := (HB.out.cell (p := ⟨b, off + k * 3 + 2, none⟩) hb).trans hc2
      obtain ⟨b', off', rfl, hb', hd⟩ := HR1.out.at1 hy
      have hd0 : wr.cell? ⟨b', off' + k, none⟩ = some (.bool on[k]) := (HB.out.cell (p := ⟨b', off' + k, none⟩) hb').trans hd
      have hbw : b < wr.heap.size := Nat.lt_of_lt_of_le hb HB.out.size
      have hbw' : b' < wr.heap.size := Nat.lt_of_lt_of_le hb' HB.out.size
      obtain ⟨l1, l2, l3, l4, l5⟩ := HN.out.line hx
      rw [l1] at hc0
      rw [l2] at hc1
      have ho : isOn on k ↔ on[k] = true := by unfold isOn; rw [getD_lt hy]
      have HO := Lib.hid ho
      generalize hon : on[k] = o at hd0 HO
      clear hd l1 l2 l5 ho hon
      generalize ls[k].c = z2 at hc2
      have ha : lA ls k < n := by omega
      have hbb : lB ls k < n := by omega
      clear l3 l4
      generalize hla : lA ls k = a at hc0 ha
      generalize hlb : lB ls k = q at hc1 hbb
      have HAB := Lib.hid (And.intro hla hlb)
      clear hla hlb
      cases o with
      | false =>
        have HOF : Hid (¬ isOn on k) := fun h => by have := HO.out.1 h; cases this
        go_wp2_with fail
        exact ⟨⟨k + 1, r, u, by go_num, by omega, HRF.out.trans (rOf_off HOF.out).symm, HC.out.off HOF.out, rowIs_alloc1 HRow.out _, by unfold Hid; have hB := HB.out; (repeat' (first | (with_reducible exact Below.refl _ _) | (with_reducible refine Below.alloc ?_ ?_ _) | (with_reducible refine Below.setCell ?_ ?_ _) | (with_reducible refine Below.drew ?_) | (refine Below.trans ?_ (Below.mono (by with_reducible assumption) ?_)) | go_size))⟩, by simp [intOf]; omega⟩
      | true =>
        have HOT : Hid (isOn on k) := HO.out.2 rfl
        have HBx : Hid (Below w.heap.size w (wr.alloc (.cells #[.int .i64 (a : Int), .int .i64 (q : Int), .int .i64 z2] 58))) := by unfold Hid; have hB := HB.out; (repeat' (first | (with_reducible exact Below.refl _ _) | (with_reducible refine Below.alloc ?_ ?_ _) | (with_reducible refine Below.setCell ?_ ?_ _) | (with_reducible refine Below.drew ?_) | (refine Below.trans ?_ (Below.mono (by with_reducible assumption) ?_)) | go_size))
        have hKx := Bk.new wr 58 #[.int .i64 (a : Int), .int .i64 (q : Int), .int .i64 z2]
        have HKx := Lib.hid hKx; clear hKx
        go_wp2_with fail
        by_cases he : r a = r q
        · exact absurd (HC.out.found HOT.out (by rw [HAB.out.1]; exact ha) (by rw [HAB.out.2]; exact hbb) (by rw [HAB.out.1, HAB.out.2]; exact he)) HCY.out
        · have HE := Lib.hid he
          clear he
          refine (join_any (w.heap.size + 1) n n r u a q _ HC.out.roots HC.out.ptrs ha hbb hn8 (rowIs_alloc1 HRow.out _)).mono ?_
          rintro e w3 ⟨rfl, hm3, hq3, u3, hp3, hr3⟩
          have HB3 : Hid (Below w.heap.size w w3) := HBx.out.trans (hm3.below (by omega))
          have HR3 := Lib.hid hr3
          have HC3 : Hid (CycS ls on n (k + 1) (joinR r (max (r a) (r q)) (min (r a) (r q))) u3) := by
            have h := HC.out.join (u' := u3) HOT.out (by rw [HAB.out.1]; exact ha) (by rw [HAB.out.2]; exact hbb) (by rw [HAB.out.1, HAB.out.2]; exact HE.out) (by rw [HAB.out.1, HAB.out.2]; exact hq3) (by rw [HAB.out.1, HAB.out.2]; exact hp3)
            rw [HAB.out.1, HAB.out.2] at h
            exact h
          have HRN : Hid (joinR r (max (r a) (r q)) (min (r a) (r q)) = rOf ls on (k + 1)) := by
            unfold Hid
            rw [rOf_on HOT.out, ← HRF.out, HAB.out.1, HAB.out.2]
          clear hm3 hq3 hp3 hr3
          go_wp2_with fail
          exact ⟨⟨k + 1, _, u3, by go_num, by omega, HRN, HC3, HR3, HB3⟩, by simp [intOf]; omega⟩
    · obtain rfl : k = m := by omega
      go_wp2_with fail
      go_ret
      exact ⟨u, rfl, by rw [← HRF.out]; exact HC.out, HRow.out, HB.out⟩
end Go.Proofs.YtdfgdeccejcpfaaDoor
