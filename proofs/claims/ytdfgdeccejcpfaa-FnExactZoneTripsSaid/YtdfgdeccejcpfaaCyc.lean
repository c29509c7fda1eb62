/- impl.hasCycle. -/
import Derived.Test.YtdfgdeccejcpfaaUn
namespace Go.Proofs.Ytdfgdeccejcpfaa
open Go.RowKit Go.Deep
set_option linter.unusedSimpArgs false
set_option linter.unusedVariables false

theorem conn_none {eA eB : Nat → Nat} {S : Nat → Prop} (h : ∀ k, ¬ S k) {a b : Nat} (hc : Conn eA eB S a b) : a = b := by
  induction hc with
  | refl => rfl
  | step _ hk _ _ => exact absurd hk (h _)
theorem roots_zero (eA eB : Nat → Nat) (on : Nat → Prop) (B : Nat) : RootsOf eA eB (Low on 0) B id := by
  intro a b _ _
  constructor
  · intro h
    have h : a = b := h
    subst h
    exact .refl _
  · intro h; exact conn_none (fun k hk => by have := hk.2; omega) h
theorem ptrs_id (B : Nat) : Roots B id ∧ Ptrs B id id := ⟨⟨fun _ h => h, fun _ _ => rfl⟩, ⟨fun _ _ => Nat.le_refl _, fun _ _ => rfl, fun _ _ h => h⟩⟩
theorem low_off {on : Nat → Prop} {k : Nat} (h : ¬ on k) : Low on (k + 1) = Low on k := by
  funext j
  apply propext
  unfold Low
  constructor
  · rintro ⟨h1, h2⟩
    by_cases e : j = k
    · subst e; exact absurd h1 h
    · exact ⟨h1, by omega⟩
  · rintro ⟨h1, h2⟩; exact ⟨h1, by omega⟩
theorem low_on {on : Nat → Prop} {k : Nat} (h : on k) (j : Nat) : Low on (k + 1) j ↔ (Low on k j ∨ j = k) := by
  unfold Low
  constructor
  · rintro ⟨h1, h2⟩
    by_cases e : j = k
    · exact .inr e
    · exact .inl ⟨h1, by omega⟩
  · rintro (⟨h1, h2⟩ | e)
    · exact ⟨h1, by omega⟩
    · subst e; exact ⟨h, by omega⟩
theorem rowIs_alloc1 {g : Nat} {T : TypeId} {m : Nat} {f : Nat → Value} {w : World} (h : w.rowIs g T m f) (o : Obj) : (w.alloc o).rowIs g T m f := h.of_block (Below.heap_alloc w o g h.lt)
/-- The sets are those of the lines below k that are on, and no cycle is closed so far. -/
structure CycS (ls : List R3) (on : List Bool) (n k : Nat) (r u : Nat → Nat) : Prop where
  roots : Roots n r
  ptrs : Ptrs n r u
  of : RootsOf (lA ls) (lB ls) (Low (isOn on) k) n r
  none : ∀ j, j < k → isOn on j → ¬ Conn (lA ls) (lB ls) (Low (isOn on) j) (lA ls j) (lB ls j)
theorem CycS.start (ls : List R3) (on : List Bool) (n : Nat) : CycS ls on n 0 id id := ⟨(ptrs_id n).1, (ptrs_id n).2, roots_zero _ _ _ _, fun j hj => by omega⟩
theorem CycS.off {ls : List R3} {on : List Bool} {n k : Nat} {r u : Nat → Nat} (h : CycS ls on n k r u) (hk : ¬ isOn on k) : CycS ls on n (k + 1) r u :=
  ⟨h.roots, h.ptrs, by rw [low_off hk]; exact h.of, fun j hj hon => h.none j (by
    have : j ≠ k := fun e => by subst e; exact hk hon
    omega) hon⟩
theorem CycS.join {ls : List R3} {on : List Bool} {n k : Nat} {r u u' : Nat → Nat} (h : CycS ls on n k r u) (hk : isOn on k) (ha : lA ls k < n) (hb : lB ls k < n) (hne : r (lA ls k) ≠ r (lB ls k))
    (hr : Roots n (joinR r (max (r (lA ls k)) (r (lB ls k))) (min (r (lA ls k)) (r (lB ls k))))) (hp : Ptrs n (joinR r (max (r (lA ls k)) (r (lB ls k))) (min (r (lA ls k)) (r (lB ls k)))) u') :
    CycS ls on n (k + 1) (joinR r (max (r (lA ls k)) (r (lB ls k))) (min (r (lA ls k)) (r (lB ls k)))) u' := by
  refine ⟨hr, hp, h.of.join (low_on hk) ha hb rfl rfl, fun j hj hon => ?_⟩
  by_cases e : j = k
  · subst e; exact fun hc => hne ((h.of _ _ ha hb).2 hc)
  · exact h.none j (by omega) hon
theorem CycS.found {ls : List R3} {on : List Bool} {n k : Nat} {r u : Nat → Nat} (h : CycS ls on n k r u) (hk : isOn on k) (ha : lA ls k < n) (hb : lB ls k < n) (he : r (lA ls k) = r (lB ls k)) : cycP ls on :=
  cyc_low.2 ⟨k, hk, (h.of _ _ ha hb).1 he⟩
theorem CycS.end_ {ls : List R3} {on : List Bool} {n k : Nat} {r u : Nat → Nat} (h : CycS ls on n k r u) (hk : on.length ≤ k) : ¬ cycP ls on := fun hc => by
  obtain ⟨j, h1, h2⟩ := cyc_low.1 hc
  exact h.none j (Nat.lt_of_lt_of_le (isOn_lt h1) hk) h1 h2
set_option maxHeartbeats 4000000 in
theorem hasCycle_any (B : Int) (A A1 : Option Addr) (c c1 : Nat) (ls : List R3) (on : List Bool) (w : World) (hN : NetP B ls) (hle : on.length = ls.length) (hR : Reads 3 r3C w w.heap.size A ls) (hR1 : Reads 1 boolC w w.heap.size A1 on) :
    Calls Try.prog 70 #[.agg #[.int .i64 B, .slice A ls.length c], .slice A1 on.length c1] w fun e w' => e = .returned (.bool (pB (cycP ls on))) ∧ Below w.heap.size w w' := by
  have HR := Lib.hid hR; clear hR
  have HR1 := Lib.hid hR1; clear hR1
  have HN := Lib.hid hN
  obtain ⟨n, rfl⟩ : ∃ n : Nat, B = n := ⟨B.toNat, by have := hN.1; omega⟩
  have hn8 : n ≤ 8 := by have := hN.2.1; omega
  have hm10 : ls.length ≤ 10 := hN.2.2.1
  clear hN
  have HLE := Lib.hid hle
  rw [hle]
  clear hle
  generalize hV : pB (cycP ls on) = V
  have HV := Lib.hid hV; clear hV
  generalize hm : ls.length = m at hm10 ⊢
  have HM := Lib.hid hm; clear hm
  go_enter Try.func70, Try.ntmps70
  go_wp2_with fail
  refine (newUnion_any n hn8 _).mono ?_
  rintro e w1 ⟨rfl, hb1, hrow1⟩
  have cB := keepB hb1 (g := w.heap.size) (by go_size)
  have zB := keepZ hb1 (g := w.heap.size) (by go_size)
  have HB1 : Hid (Below w.heap.size w w1) := by unfold Hid; (repeat' (first | (with_reducible exact Below.refl _ _) | (with_reducible refine Below.alloc ?_ ?_ _) | (with_reducible refine Below.setCell ?_ ?_ _) | (with_reducible refine Below.drew ?_) | (refine Below.trans ?_ (Below.mono (by with_reducible assumption) ?_)) | go_size))
  simp only [World.size_alloc] at hrow1
  have HRow1 := Lib.hid hrow1
  clear hb1 hrow1
  have hsz : (w.alloc (.cells #[.int .i64 (n : Int), .slice A m c] 30)).heap.size = w.heap.size + 1 := World.size_alloc _ _
  rw [hsz]
  clear hsz
  go_wp2_with fail
  go_loopw [14] (fun t wr => ∃ (k : Nat) (r u : Nat → Nat), t = .int .i64 k ∧ k ≤ m ∧ Hid (CycS ls on n k r u) ∧ Hid (wr.rowIs (w.heap.size + 1) 3 n (uV u)) ∧ Hid (Below w.heap.size w wr)) (fun t _ => m - (intOf t).toNat)
  case atStart => exact ⟨0, id, id, rfl, Nat.zero_le _, CycS.start _ _ _, HRow1, HB1⟩
  case round =>
    obtain ⟨k, r, u, rfl, hk, HC, HRow, HB⟩ := hrel
    clear HRow1 HB1 cB zB
    have hzr := HRow.out.lt
    by_cases hlt : k < m
    · have hx : k < ls.length := by rw [HM.out]; exact hlt
      have hy : k < on.length := by rw [HLE.out]; exact hx
      have hi1 : (k : Int) < (m : Int) := by omega
      obtain ⟨b, off, rfl, hb, hc0, hc1, hc2⟩ := HR.out.at3 hx
      have hc0 := (HB.out.cell (p := ⟨b, off + k * 3, none⟩) hb).trans hc0
      have hc1 := (HB.out.cell (p := ⟨b, off + k * 3 + 1, none⟩) hb).trans hc1
      have hc2 := (HB.out.cell (p := ⟨b, off + k * 3 + 2, none⟩) hb).trans hc2
      obtain ⟨b', off', rfl, hb', hd⟩ := HR1.out.at1 hy
      have hd0 : wr.cell? ⟨b', off' + k, none⟩ = some (.bool on[k]) := (HB.out.cell (p := ⟨b', off' + k, none⟩) hb').trans hd
      have hbw : b < wr.heap.size := Nat.lt_of_lt_of_le hb HB.out.size
      have hbw' : b' < wr.heap.size := Nat.lt_of_lt_of_le hb' HB.out.size
      obtain ⟨l1, l2, l3, l4, l5⟩ := HN.out.line hx
      rw [l1] at hc0
      rw [l2] at hc1
      have ho : isOn on k ↔ on[k] = true := by unfold isOn; rw [getD_lt hy]
      have HO := Lib.hid ho
      generalize hon : on[k] = o at hd0 HO
      clear hd l1 l2 l5 ho hon
      generalize ls[k].c = z2 at hc2
      have ha : lA ls k < n := by omega
      have hbb : lB ls k < n := by omega
      clear l3 l4
      generalize hla : lA ls k = a at hc0 ha
      generalize hlb : lB ls k = q at hc1 hbb
      have HAB := Lib.hid (And.intro hla hlb)
      clear hla hlb
      cases o with
      | false =>
        have HOF : Hid (¬ isOn on k) := fun h => by have := HO.out.1 h; cases this
        go_wp2_with fail
        exact ⟨⟨k + 1, r, u, by go_num, by omega, HC.out.off HOF.out, rowIs_alloc1 HRow.out _, by unfold Hid; have hB := HB.out; (repeat' (first | (with_reducible exact Below.refl _ _) | (with_reducible refine Below.alloc ?_ ?_ _) | (with_reducible refine Below.setCell ?_ ?_ _) | (with_reducible refine Below.drew ?_) | (refine Below.trans ?_ (Below.mono (by with_reducible assumption) ?_)) | go_size))⟩, by simp [intOf]; omega⟩
      | true =>
        have HOT : Hid (isOn on k) := HO.out.2 rfl
        have HBx : Hid (Below w.heap.size w (wr.alloc (.cells #[.int .i64 (a : Int), .int .i64 (q : Int), .int .i64 z2] 85))) := by unfold Hid; have hB := HB.out; (repeat' (first | (with_reducible exact Below.refl _ _) | (with_reducible refine Below.alloc ?_ ?_ _) | (with_reducible refine Below.setCell ?_ ?_ _) | (with_reducible refine Below.drew ?_) | (refine Below.trans ?_ (Below.mono (by with_reducible assumption) ?_)) | go_size))
        have hKx := Bk.new wr 85 #[.int .i64 (a : Int), .int .i64 (q : Int), .int .i64 z2]
        have HKx := Lib.hid hKx; clear hKx
        go_wp2_with fail
        refine (same_any (w.heap.size + 1) n n r u a q _ HC.out.ptrs ha hbb hn8 (rowIs_alloc1 HRow.out _)).mono ?_
        rintro e w2 ⟨rfl, hm2, u2, hp2, hr2⟩
        have HK2 := Lib.hid (HKx.out.of_block (hm2.block _ (.inr (by omega))))
        have HB2 : Hid (Below w.heap.size w w2) := HBx.out.trans (hm2.below (by omega))
        have HP2 := Lib.hid hp2; have HR2 := Lib.hid hr2
        clear hm2 hp2 hr2
        have cB := HK2.out.cell
        have zB := HK2.out.lt
        by_cases he : r a = r q
        · have hde : decide (r a = r q) = true := by simp [he]
          rw [hde]
          have HE := Lib.hid he
          clear hde he
          go_wp2_with fail
          go_ret
          have hV := HV.out
          rw [pB_true (HC.out.found HOT.out (by rw [HAB.out.1]; exact ha) (by rw [HAB.out.2]; exact hbb) (by rw [HAB.out.1, HAB.out.2]; exact HE.out))] at hV
          exact ⟨by rw [← hV]; rfl, HB2.out⟩
        · have hde : decide (r a = r q) = false := by simp [he]
          rw [hde]
          have HE := Lib.hid he
          clear hde he
          go_wp2_with fail
          refine (join_any (w.heap.size + 1) n n r u2 a q _ HC.out.roots HP2.out ha hbb hn8 HR2.out).mono ?_
          rintro e w3 ⟨rfl, hm3, hq3, u3, hp3, hr3⟩
          have HB3 : Hid (Below w.heap.size w w3) := HB2.out.trans (hm3.below (by omega))
          have HR3 := Lib.hid hr3
          have HC3 : Hid (CycS ls on n (k + 1) (joinR r (max (r a) (r q)) (min (r a) (r q))) u3) := by
            have h := HC.out.join (u' := u3) HOT.out (by rw [HAB.out.1]; exact ha) (by rw [HAB.out.2]; exact hbb) (by rw [HAB.out.1, HAB.out.2]; exact HE.out) (by rw [HAB.out.1, HAB.out.2]; exact hq3) (by rw [HAB.out.1, HAB.out.2]; exact hp3)
            rw [HAB.out.1, HAB.out.2] at h
            exact h
          clear hm3 hq3 hp3 hr3
          go_wp2_with fail
          exact ⟨⟨k + 1, _, u3, by go_num, by omega, HC3, HR3, HB3⟩, by simp [intOf]; omega⟩
    · go_wp2_with fail
      go_ret
      have hV := HV.out
      rw [pB_false (HC.out.end_ (by rw [HLE.out, HM.out]; omega))] at hV
      exact ⟨by rw [← hV]; rfl, HB.out⟩
end Go.Proofs.Ytdfgdeccejcpfaa
