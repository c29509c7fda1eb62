/- impl.ZoneDiff. -/
import Derived.Test.YtdfgdeccejcpfaaZf
import Derived.Test.YtdfgdeccejcpfaaZl
import Derived.Test.YtdfgdeccejcpfaaZdP
import Derived.Test.YtdfgdeccejcpfaaClone
namespace Go.Proofs.Ytdfgdeccejcpfaa
open Go.RowKit Go.Deep
set_option linter.unusedSimpArgs false
set_option linter.unusedVariables false

theorem Res.setB2 {w : World} {T : TypeId} {B g n c : Nat} {xs : List R2} (h : Res 2 r2C T w B (.slice (some ⟨g, 0, none⟩) n c) xs) {k : Nat} (hk : k < xs.length) (v : Int) :
    w.cell? ⟨g, k * 2 + 1, none⟩ = some (.int .i64 xs[k].b) ∧ (∀ i, w.frozen? ⟨g, i, none⟩ = false) ∧ B ≤ g ∧ g < w.heap.size ∧ Res 2 r2C T (w.setCell ⟨g, k * 2 + 1, none⟩ (.int .i64 v)) B (.slice (some ⟨g, 0, none⟩) n c) (xs.set k ⟨xs[k].a, v⟩) := by
  obtain ⟨A, c', e, h⟩ := h
  injection e with e1 e2 e3
  rcases h with h | ⟨g', m, f, hA, hB, hr, hm, hf⟩
  · rw [h] at hk; simp at hk
  · rw [hA] at e1; injection e1 with e1; injection e1 with e1; subst e1
    have hc := hr.cell (i := k * 2 + 1) (by omega)
    rw [hf k xs[k] (List.getElem?_eq_getElem hk) 1 (by omega)] at hc
    refine ⟨hc, hr.frozen, hB, hr.lt, Res.of_row hB (hr.set (k * 2 + 1) (.int .i64 v)) (by simp [e2]) (by simpa using hm) (fun i y hy j hj => ?_)⟩
    rw [List.getElem?_set] at hy
    by_cases e : k = i
    · subst e
      rw [if_pos rfl, if_pos hk] at hy
      injection hy with hy
      subst hy
      have hj2 : j = 0 ∨ j = 1 := by omega
      rcases hj2 with rfl | rfl
      · rw [if_neg (by omega), hf k xs[k] (List.getElem?_eq_getElem hk) 0 (by omega)]; rfl
      · rw [if_pos rfl]; rfl
    · rw [if_neg e] at hy
      rw [if_neg (by omega)]
      exact hf i y hy j hj
set_option maxRecDepth 100000 in
set_option maxHeartbeats 8000000 in
theorem implZoneDiff_any (B : Int) (A A1 A2 A3 A4 : Option Addr) (c c1 c2 c3 c4 : Nat) (ls : List R3) (on : List Bool) (bs : List R2) (lk zs : List Int) (w : World) (hR : Reads 3 r3C w w.heap.size A ls) (hR1 : Reads 1 boolC w w.heap.size A1 on) (hR2 : Reads 2 r2C w w.heap.size A2 bs) (hR3 : Reads 1 intC w w.heap.size A3 lk) (hR4 : Reads 1 intC w w.heap.size A4 zs) (hl : ls.length ≤ 1048576) (hl1 : on.length ≤ 1048576) (hl2 : bs.length ≤ 1048576) (hl3 : lk.length ≤ 1048576) (hl4 : zs.length ≤ 1048576) :
    Calls Try.prog 25 #[.agg #[.int .i64 B, .slice A ls.length c], .slice A1 on.length c1, .slice A2 bs.length c2, .slice A3 lk.length c3, .slice A4 zs.length c4] w fun e w' => e = .returned (.int .i64 (zdV B ls on bs lk zs)) ∧ Below w.heap.size w w' := by
  have HRD : Hid (∀ W, Below w.heap.size w W → Reads 3 r3C W W.heap.size A ls ∧ Reads 1 boolC W W.heap.size A1 on ∧ Reads 2 r2C W W.heap.size A2 bs ∧ Reads 1 intC W W.heap.size A3 lk ∧ Reads 1 intC W W.heap.size A4 zs) := fun W h => ⟨(hR.below h (Nat.le_refl _)).more h.size, (hR1.below h (Nat.le_refl _)).more h.size, (hR2.below h (Nat.le_refl _)).more h.size, (hR3.below h (Nat.le_refl _)).more h.size, (hR4.below h (Nat.le_refl _)).more h.size⟩
  clear hR hR1 hR2 hR3 hR4
  have HZLC : Hid (∀ W, Below w.heap.size w W → Calls Try.prog 19 #[.agg #[.int .i64 B, .slice A ls.length c], .slice A1 on.length c1, .slice A2 bs.length c2, .slice A4 zs.length c4] W fun e w' => e = .returned (.int .i64 (zlV B ls on bs zs)) ∧ Below W.heap.size W w') := fun W h =>
    implZoneLoad_any B A A1 A2 A4 c c1 c2 c4 ls on bs zs W (HRD.out _ h).1 (HRD.out _ h).2.1 (HRD.out _ h).2.2.1 (HRD.out _ h).2.2.2.2 hl hl1 hl2 hl4
  have HZFC : Hid (∀ W X xc, Below w.heap.size w W → Reads 2 r2C W W.heap.size X (leakL bs lk) → Calls Try.prog 23 #[.agg #[.int .i64 B, .slice A ls.length c], .slice A1 on.length c1, .slice X bs.length xc, .slice A4 zs.length c4] W fun e w' => e = .returned (.int .i64 (zlV B ls on (leakL bs lk) zs)) ∧ Below W.heap.size W w') := fun W X xc h hx => by
    have q := implZoneFlow_any B A A1 X A4 c c1 xc c4 ls on (leakL bs lk) zs W (HRD.out _ h).1 (HRD.out _ h).2.1 hx (HRD.out _ h).2.2.2.2 hl hl1 (by rw [leakL_len]; exact hl2) hl4
    rw [leakL_len] at q; with_reducible exact q
  by_cases hlen : lk.length = bs.length
  · have hne : ((lk.length : Int) != (bs.length : Int)) = false := by simp [hlen]
    have HLEN := Lib.hid hlen
    have HV : Hid (zdV B ls on bs lk zs = if lkOk lk then (if zlV B ls on bs zs < 0 ∨ zlV B ls on (leakL bs lk) zs < 0 then -1 else zlV B ls on (leakL bs lk) zs - zlV B ls on bs zs) else -1) := by
      unfold Hid zdV
      by_cases h : lkOk lk
      · rw [if_pos ⟨hlen, h⟩, if_pos h]
      · rw [if_neg (fun q => h q.2), if_neg h]
    rw [hlen] at hne hl3 ⊢
    clear hlen
    obtain ⟨n, hn⟩ : ∃ n, bs.length = n := ⟨_, rfl⟩
    have HN := Lib.hid hn
    rw [hn] at hne hl2 hl3 HZLC HZFC ⊢
    clear hn
    generalize hz1 : zlV B ls on bs zs = z1 at HZLC HV
    generalize hz2 : zlV B ls on (leakL bs lk) zs = z2 at HZFC HV
    have hb1 := zlV_bd B ls on bs zs
    have hb2 := zlV_bd B ls on (leakL bs lk) zs
    rw [hz1] at hb1
    rw [hz2] at hb2
    clear hz1 hz2
    go_enter Try.func25, Try.ntmps25
    have HK0 : Hid (Bk (w.alloc (.cells #[.int .i64 B, .slice A ls.length c] 30)) w.heap.size 30 #[.int .i64 B, .slice A ls.length c]) := Bk.new _ _ _
    have HB0 : Hid (Below w.heap.size w (w.alloc (.cells #[.int .i64 B, .slice A ls.length c] 30))) := by unfold Hid; (repeat' (first | (with_reducible exact Below.refl _ _) | (with_reducible refine Below.alloc ?_ ?_ _) | (with_reducible refine Below.setCell ?_ ?_ _) | (with_reducible refine Below.drew ?_) | (refine Below.trans ?_ (Below.mono (by with_reducible assumption) ?_)) | go_size))
    have HCL : Hid (∀ W, Below w.heap.size w W → Calls Try.prog 59 #[.slice A2 n c2] W (RetS 2 r2C 68 W bs)) := fun W h => by
      have q := cloneBus_any A2 c2 bs W (HRD.out _ h).2.2.1 (by rw [HN.out]; exact hl2)
      rw [HN.out] at q; with_reducible exact q
    go_wp2_with fail
    with_reducible refine (HCL.out _ HB0.out).mono ?_
    rintro e w1 ⟨v, rfl, hcr, hcb⟩
    have HK1 := Lib.hid (HK0.out.keep hcb)
    have HB1 : Hid (Below w.heap.size w w1) := HB0.out.trans (hcb.mono HB0.out.size)
    have hcr2 := hcr.mono (show w.heap.size + 1 ≤ _ by rw [World.size_alloc]; omega)
    have HCR : Hid (Res 2 r2C 68 w1 (w.heap.size + 1) v (leakTo bs lk 0)) := hcr2
    obtain ⟨vA, vc, rfl, -⟩ := hcr
    rw [HN.out] at HCR
    rw [HN.out]
    clear hcb hcr2 HK0 HB0 HCL
    go_wp2_with fail
    go_loopw [25] (fun t wr => ∃ i : Nat, t = .int .i64 i ∧ i ≤ n ∧ Hid (∀ j, j < i → 0 ≤ lk.getD j 0 ∧ lk.getD j 0 ≤ 999) ∧ Hid (Res 2 r2C 68 wr (w.heap.size + 1) (.slice vA n vc) (leakTo bs lk i)) ∧ Hid (Bk wr w.heap.size 30 #[.int .i64 B, .slice A ls.length c]) ∧ Hid (Below w.heap.size w wr)) (fun t _ => n - (intOf t).toNat)
    case atStart => exact ⟨0, rfl, Nat.zero_le _, fun j hj => by omega, HCR, HK1, HB1⟩
    case round =>
      obtain ⟨i, rfl, hi, HG, HR5, HK, HB⟩ := hrel
      clear HCR HK1 HB1
      by_cases hlt : i < n
      · have hlk : i < lk.length := by rw [HLEN.out, HN.out]; exact hlt
        obtain ⟨kb, ko, rfl, hkb, hkc⟩ := (HRD.out _ HB.out).2.2.2.1.at1 hlk
        unfold intC at hkc
        have hkd : lk.getD i 0 = lk[i] := getD_lt hlk 0
        generalize hxx : lk[i] = x at hkc hkd
        have HXX := Lib.hid hxx
        have HKD := Lib.hid hkd
        clear hxx hkd
        have hi1 : (i : Int) < (n : Int) := by omega
        by_cases hx : 0 ≤ x ∧ x ≤ 999
        · have hin := inB_t.2 hx
          obtain ⟨hx1, hx2⟩ := hx
          have hXl : (leakTo bs lk i).length = n := by rw [leakTo_len]; exact HN.out
          obtain ⟨g, hvA, hgB, hgz⟩ : ∃ g, vA = some ⟨g, 0, none⟩ ∧ w.heap.size + 1 ≤ g ∧ g < wr.heap.size := by
            obtain ⟨A', c', e, h⟩ := HR5.out
            injection e with e1 e2 e3
            rcases h with h | ⟨g, m, f, hA, hB, hr, hm, hf⟩
            · rw [h] at hXl; simp at hXl; omega
            · exact ⟨g, e1.trans hA, hB, hr.lt⟩
          subst hvA
          have hki : i < (leakTo bs lk i).length := by rw [hXl]; exact hlt
          obtain ⟨b, hb⟩ : ∃ b, (leakTo bs lk i)[i].b = b := ⟨_, rfl⟩
          obtain ⟨hcc, hff, -, -, hset⟩ := HR5.out.setB2 hki (wrap64 (b + x))
          rw [hb] at hcc
          have hnx : (leakTo bs lk i).set i ⟨(leakTo bs lk i)[i].a, wrap64 (b + x)⟩ = leakTo bs lk (i + 1) := by
            have e1 : (leakTo bs lk i)[i] = busAt bs i := by
              have q := leakTo_at bs lk i i (by rw [HN.out]; exact hlt)
              rw [if_neg (by omega)] at q; rw [← q]; unfold busAt; rw [getD_lt hki]
            show _ = (leakTo bs lk i).set i (leakN bs lk i)
            unfold leakN
            rw [HKD.out, ← e1, hb, IntWalk.i64_left]
          rw [hnx] at hset
          have HS := Lib.hid hset
          have HG2 : Hid (∀ j, j < i + 1 → 0 ≤ lk.getD j 0 ∧ lk.getD j 0 ≤ 999) := fun j hj => by
            by_cases e : j = i
            · subst e; rw [HKD.out]; exact ⟨hx1, hx2⟩
            · exact HG.out j (by omega)
          have HKS : Hid (Bk (wr.setCell ⟨g, i * 2 + 1, none⟩ (.int .i64 (wrap64 (b + x)))) w.heap.size 30 #[.int .i64 B, .slice A ls.length c]) := HK.out.far (p := ⟨g, i * 2 + 1, none⟩) (by show w.heap.size ≠ g; omega) _
          have HBS : Hid (Below w.heap.size w (wr.setCell ⟨g, i * 2 + 1, none⟩ (.int .i64 (wrap64 (b + x))))) := by have q := HB.out; unfold Hid; (repeat' (first | (with_reducible exact Below.refl _ _) | (with_reducible refine Below.alloc ?_ ?_ _) | (with_reducible refine Below.setCell ?_ ?_ _) | (with_reducible refine Below.drew ?_) | (refine Below.trans ?_ (Below.mono (by with_reducible assumption) ?_)) | go_size))
          clear hset hnx hb hXl
          go_wp2_with (go_at_call 60; (with_reducible refine (powerValid_any _ _).mono ?_); rintro e w' ⟨rfl, rfl⟩)
          exact ⟨⟨i + 1, by go_num, by omega, HG2, HS, HKS, HBS⟩, by simp [intOf]; omega⟩
        · have hin := inB_f.2 hx
          have HNO : Hid (zdV B ls on bs lk zs = -1) := by
            unfold Hid; rw [HV.out, if_neg (fun h => hx (by rw [← HXX.out]; exact h _ (List.getElem_mem hlk)))]
          clear hx
          go_wp2_with (go_at_call 60; (with_reducible refine (powerValid_any _ _).mono ?_); rintro e w' ⟨rfl, rfl⟩)
          go_ret
          exact ⟨by rw [HNO.out]; rfl, HB.out⟩
      · obtain rfl : i = n := by omega
        have HLK : Hid (lkOk lk) := fun y hy => by
          obtain ⟨j, hj, rfl⟩ := List.mem_iff_getElem.1 hy
          have q := HG.out j (by rw [← HN.out, ← HLEN.out]; exact hj)
          rw [getD_lt hj] at q; exact q
        have HX : Hid (leakTo bs lk i = leakL bs lk) := by unfold Hid leakL; rw [HN.out]
        rw [HX.out] at HR5
        have HRX : Hid (∀ W, Below wr.heap.size wr W → Reads 2 r2C W W.heap.size vA (leakL bs lk)) := fun W h => by
          have q := (HR5.out.below h).reads.1
          exact q
        rw [if_pos HLK.out] at HV
        have hs0 : wr.cell? ⟨w.heap.size, 0, none⟩ = some (.int .i64 B) := HK.out.cell 0
        have hs1 : wr.cell? ⟨w.heap.size, 1, none⟩ = some (.slice A ls.length c) := HK.out.cell 1
        have zK := HK.out.lt
        have HBD : Hid (Below w.heap.size w wr.drew) := HB.out.drew
        go_upto_region 11 with fail
        go_region_held3 (fun w' => w'.cell? ⟨w.heap.size, 0, none⟩ = some (.int .i64 B) ∧ w'.cell? ⟨w.heap.size, 1, none⟩ = some (.slice A ls.length c)) (simp [go_sem, World.cell?_alloc_past, *])
          (first | (go_at_call 19; (with_reducible refine (HZLC.out _ (by exact HBD.out)).mono ?_); rintro e w5 ⟨rfl, hb5⟩; have q0 := keepB hb5 (g := w.heap.size) (by exact zK); have z5 := keepZ hb5 (g := w.heap.size) (by exact zK); have HBE := Lib.hid hb5; have HBW5 : Hid (Below w.heap.size w w5) := HBD.out.trans (hb5.mono HBD.out.size); have HRX5 := Lib.hid (HRX.out w5 (undrew hb5)); clear hb5)
                 | (go_at_call 23; (with_reducible refine (HZFC.out _ vA vc (by exact HBW5.out) (by exact HRX5.out)).mono ?_); rintro e w6 ⟨rfl, hb6⟩; have q1 := keepB hb6 (g := w.heap.size) (by exact z5); have HB6 : Hid (Below w.heap.size w w6) := HBW5.out.trans (hb6.mono HBW5.out.size); clear hb6))
        clear q0 q1 hs0 hs1
        by_cases h1 : z1 < 0
        · have HNO : Hid (zdV B ls on bs lk zs = -1) := by unfold Hid; rw [HV.out, if_pos (.inl h1)]
          go_wp2_with fail
          all_goals try (exfalso; omega; done)
          go_ret
          exact ⟨by rw [HNO.out]; rfl, HB6.out⟩
        · by_cases h2 : z2 < 0
          · have HNO : Hid (zdV B ls on bs lk zs = -1) := by unfold Hid; rw [HV.out, if_pos (.inr h2)]
            go_wp2_with fail
            all_goals try (exfalso; omega; done)
            go_ret
            exact ⟨by rw [HNO.out]; rfl, HB6.out⟩
          · have HNO : Hid (zdV B ls on bs lk zs = z2 - z1) := by unfold Hid; rw [HV.out, if_neg (fun h => by omega)]
            have hw : IntKind.i64.wrap (z2 - z1) = z2 - z1 := IntWalk.i64_in _ (by omega)
            go_wp2_with fail
            all_goals try (exfalso; omega; done)
            go_ret
            exact ⟨by rw [HNO.out]; rfl, HB6.out⟩
  · have hne : ((lk.length : Int) != (bs.length : Int)) = true := by simp; omega
    have HNO : Hid (zdV B ls on bs lk zs = -1) := by unfold Hid zdV; rw [if_neg (fun h => hlen h.1)]
    clear hlen
    go_enter Try.func25, Try.ntmps25
    go_wp2_with fail
    go_ret
    refine ⟨by rw [HNO.out]; rfl, ?_⟩
    (repeat' (first | (with_reducible exact Below.refl _ _) | (with_reducible refine Below.alloc ?_ ?_ _) | (with_reducible refine Below.setCell ?_ ?_ _) | (with_reducible refine Below.drew ?_) | (refine Below.trans ?_ (Below.mono (by with_reducible assumption) ?_)) | go_size))
end Go.Proofs.Ytdfgdeccejcpfaa
