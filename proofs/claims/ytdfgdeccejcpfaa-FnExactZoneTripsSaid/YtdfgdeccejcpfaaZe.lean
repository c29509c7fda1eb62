/- spec.ZoneDiff. -/
import Derived.Test.YtdfgdeccejcpfaaZw
import Derived.Test.YtdfgdeccejcpfaaSpL
import Derived.Test.YtdfgdeccejcpfaaSpG
namespace Go.Proofs.Ytdfgdeccejcpfaa
open Go.RowKit Go.Deep
set_option linter.unusedSimpArgs false
set_option linter.unusedVariables false

theorem wAll_out {bs : List R2} {lk : List Int} (h : wAll bs lk) (h0 : 0 < bs.length) : lk.length = bs.length ∧ lkOk lk ∧ fitP bs lk := by
  have hl := (h 0 h0).1
  refine ⟨hl, fun x hx => ?_, fun i hi => (h i hi).2.2⟩
  obtain ⟨j, hj, rfl⟩ := List.mem_iff_getElem.1 hx
  have q := (h j (by omega)).2.1
  rw [getD_lt hj] at q; exact q
theorem wAll_in {bs : List R2} {lk : List Int} (h1 : lk.length = bs.length) (h2 : lkOk lk) (h3 : fitP bs lk) : wAll bs lk := fun i hi => by
  refine ⟨h1, ?_, h3 i hi⟩
  rw [getD_lt (by omega : i < lk.length)]; exact h2 _ (List.getElem_mem _)
set_option maxRecDepth 100000 in
set_option maxHeartbeats 8000000 in
theorem specZoneDiff_any (B : Int) (A A1 A2 A3 A4 : Option Addr) (c c1 c2 c3 c4 : Nat) (ls : List R3) (on : List Bool) (bs : List R2) (lk zs : List Int) (w : World) (hR : Reads 3 r3C w w.heap.size A ls) (hR1 : Reads 1 boolC w w.heap.size A1 on) (hR2 : Reads 2 r2C w w.heap.size A2 bs) (hR3 : Reads 1 intC w w.heap.size A3 lk) (hR4 : Reads 1 intC w w.heap.size A4 zs) (hl : ls.length ≤ 1048576) (hl1 : on.length ≤ 1048576) (hl2 : bs.length ≤ 1048576) (hl3 : lk.length ≤ 1048576) (hl4 : zs.length ≤ 1048576) :
    Calls Try.prog 24 #[.agg #[.int .i64 B, .slice A ls.length c], .slice A1 on.length c1, .slice A2 bs.length c2, .slice A3 lk.length c3, .slice A4 zs.length c4] w fun e w' => e = .returned (.int .i64 (zdV B ls on bs lk zs)) ∧ Below w.heap.size w w' := by
  have HRD : Hid (∀ W, Below w.heap.size w W → Reads 3 r3C W W.heap.size A ls ∧ Reads 1 boolC W W.heap.size A1 on ∧ Reads 2 r2C W W.heap.size A2 bs ∧ Reads 1 intC W W.heap.size A3 lk ∧ Reads 1 intC W W.heap.size A4 zs) := fun W h => ⟨(hR.below h (Nat.le_refl _)).more h.size, (hR1.below h (Nat.le_refl _)).more h.size, (hR2.below h (Nat.le_refl _)).more h.size, (hR3.below h (Nat.le_refl _)).more h.size, (hR4.below h (Nat.le_refl _)).more h.size⟩
  clear hR hR1 hR2 hR3 hR4
  have HK0 : Hid (Bk (w.alloc (.cells #[.int .i64 B, .slice A ls.length c] 30)) w.heap.size 30 #[.int .i64 B, .slice A ls.length c]) := Bk.new _ _ _
  have HB0 : Hid (Below w.heap.size w (w.alloc (.cells #[.int .i64 B, .slice A ls.length c] 30))) := by unfold Hid; (repeat' (first | (with_reducible exact Below.refl _ _) | (with_reducible refine Below.alloc ?_ ?_ _) | (with_reducible refine Below.setCell ?_ ?_ _) | (with_reducible refine Below.drew ?_) | (refine Below.trans ?_ (Below.mono (by with_reducible assumption) ?_)) | go_size))
  go_enter Try.func24, Try.ntmps24
  go_wp2_with fail
  with_reducible refine (l18With_any A2 A3 c2 c3 bs lk _ (HRD.out _ HB0.out).2.2.1 (HRD.out _ HB0.out).2.2.2.1 hl2 hl3).mono ?_
  rintro e w1 ⟨vA, vn, vc, rfl, hres, hb1⟩
  have HK1 := Lib.hid (HK0.out.keep hb1)
  have HB1 : Hid (Below w.heap.size w w1) := HB0.out.trans (hb1.mono HB0.out.size)
  have HRES : Hid (wAll bs lk → Res 2 r2C 68 w1 (w.heap.size + 1) (.slice vA vn vc) (leakL bs lk)) := fun h => (hres h).mono (show w.heap.size + 1 ≤ _ by rw [World.size_alloc]; omega)
  clear hres hb1 HK0 HB0
  have cK := HK1.out.cell; have zK := HK1.out.lt
  by_cases hA : wAll bs lk
  · have HA := Lib.hid hA
    rw [decide_eq_true hA]
    clear hA
    have hrs := HRES.out HA.out
    obtain ⟨-, hvn⟩ := hrs.reads
    rw [leakL_len] at hvn
    subst hvn
    have HRS := Lib.hid hrs; clear hrs HRES
    go_wp2_with fail
    with_reducible refine (specRadial_any B A A1 A2 c c1 c2 ls on bs _ (HRD.out _ HB1.out).1 (HRD.out _ HB1.out).2.1 (HRD.out _ HB1.out).2.2.1 hl hl1 hl2).mono ?_
    rintro e w2 ⟨rfl, hb2⟩
    have HK2 := Lib.hid (HK1.out.keep hb2)
    have HRS2 := Lib.hid (HRS.out.below hb2)
    have HB2 : Hid (Below w.heap.size w w2) := HB1.out.trans (hb2.mono HB1.out.size)
    clear hb2 cK zK HK1 HB1 HRS
    have cK := HK2.out.cell; have zK := HK2.out.lt
    have hnone : ¬ (RadP B ls on bs ∧ ZoneP B zs) → zdV B ls on bs lk zs = -1 := fun h => zdV_none (fun q => h q.2.2.2)
    have HNONE := Lib.hid hnone; clear hnone
    by_cases hr : RadP B ls on bs
    · have hrv := pB_true hr
      have HRA := Lib.hid hr; clear hr
      rw [hrv]
      clear hrv
      go_wp2_with fail
      with_reducible refine (specZoneValid_any B A A4 c c4 ls zs _ (HRD.out _ HB2.out).1 (HRD.out _ HB2.out).2.2.2.2 hl hl4).mono ?_
      rintro e w3 ⟨rfl, hb3⟩
      have hnv : netV B ls = true := netV_t.2 HRA.out.1.1.1
      rw [hnv, Bool.true_and]
      clear hnv cK zK
      have HK3 := Lib.hid (HK2.out.keep hb3)
      have HRS3 := Lib.hid (HRS2.out.below hb3)
      have HB3 : Hid (Below w.heap.size w w3) := HB2.out.trans (hb3.mono HB2.out.size)
      clear hb3 HK2 HB2 HRS2
      by_cases hz : ZoneP B zs
      · rw [zoneV_t.2 hz]
        have HZ := Lib.hid hz
        have hbn0 : 0 < bs.length := by have q1 := HRA.out.1.2.1; have q2 := HRA.out.1.1.1.1; omega
        obtain ⟨q1, q2, q3⟩ := wAll_out HA.out hbn0
        have hv := zdV_spec q1 q2 q3 HRA.out HZ.out
        clear q1 q2 q3 hbn0 hz
        have HZLC : Hid (∀ W, Below w.heap.size w W → Calls Try.prog 16 #[.agg #[.int .i64 B, .slice A ls.length c], .slice A1 on.length c1, .slice A2 bs.length c2, .slice A4 zs.length c4] W fun e w' => e = .returned (.int .i64 (zlV B ls on bs zs)) ∧ Below W.heap.size W w') := fun W h =>
          specZoneLoad_any B A A1 A2 A4 c c1 c2 c4 ls on bs zs W (HRD.out _ h).1 (HRD.out _ h).2.1 (HRD.out _ h).2.2.1 (HRD.out _ h).2.2.2.2 hl hl1 hl2 hl4
        have HZFC : Hid (∀ W, Below w.heap.size w W → Reads 2 r2C W W.heap.size vA (leakL bs lk) → Calls Try.prog 22 #[.agg #[.int .i64 B, .slice A ls.length c], .slice A1 on.length c1, .slice vA bs.length vc, .slice A4 zs.length c4] W fun e w' => e = .returned (.int .i64 (zlV B ls on (leakL bs lk) zs)) ∧ Below W.heap.size W w') := fun W h hx => by
          have q := specZoneFlow_any B A A1 vA A4 c c1 vc c4 ls on (leakL bs lk) zs W (HRD.out _ h).1 (HRD.out _ h).2.1 hx (HRD.out _ h).2.2.2.2 hl hl1 (by rw [leakL_len]; exact hl2) hl4
          rw [leakL_len] at q; with_reducible exact q
        have hb1 := zlV_bd B ls on bs zs
        have hb2 := zlV_bd B ls on (leakL bs lk) zs
        generalize hz1 : zlV B ls on bs zs = z1 at HZLC hv hb1
        generalize hz2 : zlV B ls on (leakL bs lk) zs = z2 at HZFC hv hb2
        clear hz1 hz2
        have hw : IntKind.i64.wrap (z2 - z1) = z2 - z1 := IntWalk.i64_in _ (by omega)
        have HV := Lib.hid hv.1; clear hv
        have hs0 : w3.cell? ⟨w.heap.size, 0, none⟩ = some (.int .i64 B) := HK3.out.cell 0
        have hs1 : w3.cell? ⟨w.heap.size, 1, none⟩ = some (.slice A ls.length c) := HK3.out.cell 1
        have zK := HK3.out.lt
        have HBD : Hid (Below w.heap.size w w3.drew) := HB3.out.drew
        have HRD3 : Hid (Reads 2 r2C w3.drew w3.drew.heap.size vA (leakL bs lk)) := HRS3.out.reads.1
        go_upto_region 4 with fail
        go_region_held3 (fun w' => w'.cell? ⟨w.heap.size, 0, none⟩ = some (.int .i64 B) ∧ w'.cell? ⟨w.heap.size, 1, none⟩ = some (.slice A ls.length c)) (simp [go_sem, World.cell?_alloc_past, *])
          (first | (go_at_call 22; (with_reducible refine (HZFC.out _ (by exact HBD.out) (by exact HRD3.out)).mono ?_); rintro e w5 ⟨rfl, hb5⟩; have q0 := keepB hb5 (g := w.heap.size) (by exact zK); have z5 := keepZ hb5 (g := w.heap.size) (by exact zK); have HBW5 : Hid (Below w.heap.size w w5) := HBD.out.trans (hb5.mono HBD.out.size); clear hb5)
                 | (go_at_call 16; (with_reducible refine (HZLC.out _ (by exact HBW5.out)).mono ?_); rintro e w6 ⟨rfl, hb6⟩; have q1 := keepB hb6 (g := w.heap.size) (by exact z5); have HB6 : Hid (Below w.heap.size w w6) := HBW5.out.trans (hb6.mono HBW5.out.size); clear hb6))
        clear q0 q1 hs0 hs1
        go_wp2_with fail
        go_ret
        exact ⟨by rw [HV.out]; rfl, HB6.out⟩
      · rw [zoneV_f.2 hz]
        have HNO := Lib.hid (HNONE.out (fun q => hz q.2))
        clear hz
        go_wp2_with fail
        go_ret
        exact ⟨by rw [HNO.out]; rfl, HB3.out⟩
    · have hrv := pB_f.2 hr
      have HNO := Lib.hid (HNONE.out (fun q => hr q.1))
      rw [hrv]
      clear hr hrv
      go_wp2_with fail
      go_ret
      exact ⟨by rw [HNO.out]; rfl, HB2.out⟩
  · rw [decide_eq_false hA]
    have HNO : Hid (zdV B ls on bs lk zs = -1) := zdV_none (fun h => hA (wAll_in h.1 h.2.1 h.2.2.1))
    clear hA HRES
    go_wp2_with fail
    go_ret
    exact ⟨by rw [HNO.out]; rfl, HB1.out⟩
end Go.Proofs.Ytdfgdeccejcpfaa
