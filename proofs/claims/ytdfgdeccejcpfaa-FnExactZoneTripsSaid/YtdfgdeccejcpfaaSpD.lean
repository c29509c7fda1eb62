/- spec.Radial. -/
import Derived.Test.YtdfgdeccejcpfaaSpC
import Derived.Test.YtdfgdeccejcpfaaZoA
namespace Go.Proofs.Ytdfgdeccejcpfaa
open Go.RowKit Go.Deep
set_option linter.unusedSimpArgs false
set_option linter.unusedVariables false

set_option maxHeartbeats 4000000 in
theorem specBusesValid_any (B : Int) (A A1 : Option Addr) (c c1 : Nat) (ls : List R3) (bs : List R2) (w : World) (hR : Reads 3 r3C w w.heap.size A ls) (hR1 : Reads 2 r2C w w.heap.size A1 bs) (hl : ls.length ≤ 1048576) (hl1 : bs.length ≤ 1048576) :
    Calls Try.prog 77 #[.agg #[.int .i64 B, .slice A ls.length c], .slice A1 bs.length c1] w fun e w' => e = .returned (.bool (busV B ls bs)) ∧ Below w.heap.size w w' := by
  have HR := Lib.hid hR; have HR1 := Lib.hid hR1
  clear hR hR1
  generalize hV : busV B ls bs = V
  have HV := Lib.hid hV; clear hV
  generalize hn : bs.length = n at hl1 ⊢
  have HNN := Lib.hid hn; clear hn
  have HNV : Hid (∀ W, Below w.heap.size w W → Calls Try.prog 39 #[.agg #[.int .i64 B, .slice A ls.length c]] W fun e w' => e = .returned (.bool (netV B ls)) ∧ Below W.heap.size W w') := fun W h => specNetValid_any B A c ls W ((HR.out.below h (Nat.le_refl _)).more h.size) hl
  go_enter Try.func77, Try.ntmps77
  go_wp2_with fail
  go_loopw [5] (fun t wr => ∃ i : Nat, t = .int .i64 i ∧ i ≤ n ∧ Hid (∀ j (hj : j < bs.length), j < i → BusOk bs[j]) ∧ Hid (Bk wr w.heap.size 30 #[.int .i64 B, .slice A ls.length c]) ∧ Hid (Below w.heap.size w wr)) (fun t _ => n - (intOf t).toNat)
  case atStart => exact ⟨0, rfl, Nat.zero_le _, fun j _ hj => absurd hj (by omega), Bk.new _ _ _, Below.alloc (Below.refl _ _) (Nat.le_refl _) _⟩
  case round =>
    obtain ⟨i, rfl, hi, HA, HK, HB⟩ := hrel
    have cK := HK.out.cell; have zK := HK.out.lt
    by_cases hlt : i < n
    · have hx : i < bs.length := by rw [HNN.out]; exact hlt
      obtain ⟨b, off, rfl, hb, hc0, hc1⟩ := HR1.out.at2 hx
      have hc0 := (HB.out.cell (p := ⟨b, off + i * 2, none⟩) hb).trans hc0
      have hc1 := (HB.out.cell (p := ⟨b, off + i * 2 + 1, none⟩) hb).trans hc1
      generalize hxx : bs[i] = x at hc0 hc1
      have HXX := Lib.hid hxx; clear hxx
      have hi1 : (i : Int) < (n : Int) := by omega
      by_cases hok : BusOk x
      · have hok2 := hok
        unfold BusOk at hok2
        have i1 : inB x.a 0 999 = true := inB_t.2 (by omega)
        have i2 : inB x.b 0 999 = true := inB_t.2 (by omega)
        have HOK := Lib.hid hok
        clear hok2 hok
        go_wp2_with (go_at_call 38; refine (l1In_any _ _ _ _).mono ?_; rintro e w' ⟨rfl, rfl⟩)
        refine ⟨⟨i + 1, by go_num, by omega, (fun j hj hji => ?_), HK, HB⟩, by simp [intOf]; omega⟩
        by_cases e : j = i
        · subst e; rw [HXX.out]; exact HOK.out
        · exact HA.out j hj (by omega)
      · have HOK := Lib.hid hok; clear hok
        go_wp2_with (go_at_call 38; refine (l1In_any _ _ _ _).mono ?_; rintro e w' ⟨rfl, rfl⟩)
        all_goals try (exfalso; apply HOK.out; unfold BusOk; simp only [Bool.not_eq_true', Bool.not_eq_false', inB_t, inB_f] at *; omega; done)
        all_goals (go_ret; have hV := HV.out; rw [busV_f.2 (fun hp => HOK.out (by rw [← HXX.out]; exact hp.2.2 _ (List.getElem_mem hx)))] at hV; exact ⟨by rw [← hV]; rfl, HB.out⟩)
    · obtain rfl : i = n := by omega
      have hall : ∀ x ∈ bs, BusOk x := fun x hx => by obtain ⟨j, hj, rfl⟩ := List.mem_iff_getElem.1 hx; exact HA.out j hj (by have := HNN.out; omega)
      by_cases hv : NetP B ls
      · have hnv := netV_t.2 hv
        by_cases he : (i : Int) = B
        · have hee : ((i : Int) == B) = true := by simp [he]
          have HVV : Hid (V = true) := by unfold Hid; rw [← HV.out]; exact busV_t.2 ⟨hv, by rw [HNN.out]; exact he, hall⟩
          clear he hv hall
          go_wp2_with fail
          refine (HNV.out wr HB.out).mono ?_
          rintro e w2 ⟨rfl, hb2⟩
          have c2 := keepB hb2 (g := w.heap.size) zK
          go_wp2_with fail
          go_ret
          exact ⟨by rw [HVV.out]; rfl, HB.out.trans (hb2.mono HB.out.size)⟩
        · have hee : ((i : Int) == B) = false := by simp [he]
          have HVV : Hid (V = false) := by unfold Hid; rw [← HV.out]; exact busV_f.2 (fun h => he (by rw [← HNN.out]; exact h.2.1))
          clear he hv hall
          go_wp2_with fail
          refine (HNV.out wr HB.out).mono ?_
          rintro e w2 ⟨rfl, hb2⟩
          have c2 := keepB hb2 (g := w.heap.size) zK
          go_wp2_with fail
          go_ret
          exact ⟨by rw [HVV.out]; rfl, HB.out.trans (hb2.mono HB.out.size)⟩
      · have hnv := netV_f.2 hv
        have HVV : Hid (V = false) := by unfold Hid; rw [← HV.out]; exact busV_f.2 (fun h => hv h.1)
        clear hv hall
        go_wp2_with fail
        refine (HNV.out wr HB.out).mono ?_
        rintro e w2 ⟨rfl, hb2⟩
        go_wp2_with fail
        go_ret
        exact ⟨by rw [HVV.out]; rfl, HB.out.trans (hb2.mono HB.out.size)⟩
theorem l5Ok_any (B : Int) (A A1 A2 : Option Addr) (c c1 c2 : Nat) (ls : List R3) (on : List Bool) (bs : List R2) (w : World) (hR : Reads 3 r3C w w.heap.size A ls) (hR2 : Reads 2 r2C w w.heap.size A2 bs) (hl : ls.length ≤ 1048576) (hl1 : on.length ≤ 1048576) (hl2 : bs.length ≤ 1048576) :
    Calls Try.prog 65 #[.agg #[.int .i64 B, .slice A ls.length c], .slice A1 on.length c1, .slice A2 bs.length c2] w fun e w' => e = .returned (.bool (fedV B ls on bs)) ∧ Below w.heap.size w w' := by
  have HRD : Hid (∀ W, Below w.heap.size w W → Reads 3 r3C W W.heap.size A ls ∧ Reads 2 r2C W W.heap.size A2 bs) := fun W h => ⟨(hR.below h (Nat.le_refl _)).more h.size, (hR2.below h (Nat.le_refl _)).more h.size⟩
  clear hR hR2
  rw [fedV_and]
  generalize hs : stV B ls on = s
  have HS := Lib.hid hs; clear hs
  cases s with
  | true =>
    go_enter Try.func65, Try.ntmps65
    go_wp2_with fail
    refine (specStateValid_any B A A1 c c1 ls on _ (HRD.out _ (by (repeat' (first | (with_reducible exact Below.refl _ _) | (with_reducible refine Below.alloc ?_ ?_ _) | (with_reducible refine Below.setCell ?_ ?_ _) | (with_reducible refine Below.drew ?_) | (refine Below.trans ?_ (Below.mono (by with_reducible assumption) ?_)) | go_size)))).1 hl hl1).mono ?_
    rintro e w1 ⟨rfl, hb⟩
    have cB0 := keepB hb (g := w.heap.size) (by go_size); have fB0 := keepF hb (g := w.heap.size) (by go_size); have zB0 := keepZ hb (g := w.heap.size) (by go_size)
    have HB1 : Hid (Below w.heap.size w w1) := by unfold Hid; (repeat' (first | (with_reducible exact Below.refl _ _) | (with_reducible refine Below.alloc ?_ ?_ _) | (with_reducible refine Below.setCell ?_ ?_ _) | (with_reducible refine Below.drew ?_) | (refine Below.trans ?_ (Below.mono (by with_reducible assumption) ?_)) | go_size))
    clear hb
    rw [HS.out]
    go_wp2_with fail
    refine (specBusesValid_any B A A2 c c2 ls bs _ (HRD.out _ (by have hb := HB1.out; (repeat' (first | (with_reducible exact Below.refl _ _) | (with_reducible refine Below.alloc ?_ ?_ _) | (with_reducible refine Below.setCell ?_ ?_ _) | (with_reducible refine Below.drew ?_) | (refine Below.trans ?_ (Below.mono (by with_reducible assumption) ?_)) | go_size)))).1 (HRD.out _ (by have hb := HB1.out; (repeat' (first | (with_reducible exact Below.refl _ _) | (with_reducible refine Below.alloc ?_ ?_ _) | (with_reducible refine Below.setCell ?_ ?_ _) | (with_reducible refine Below.drew ?_) | (refine Below.trans ?_ (Below.mono (by with_reducible assumption) ?_)) | go_size)))).2 hl hl2).mono ?_
    rintro e w2 ⟨rfl, hb⟩
    have hb1 := HB1.out
    go_wp2
    go_ret
    refine ⟨by simp, ?_⟩; (repeat' (first | (with_reducible exact Below.refl _ _) | (with_reducible refine Below.alloc ?_ ?_ _) | (with_reducible refine Below.setCell ?_ ?_ _) | (with_reducible refine Below.drew ?_) | (refine Below.trans ?_ (Below.mono (by with_reducible assumption) ?_)) | go_size))
  | false =>
    go_enter Try.func65, Try.ntmps65
    go_wp2_with fail
    refine (specStateValid_any B A A1 c c1 ls on _ (HRD.out _ (by (repeat' (first | (with_reducible exact Below.refl _ _) | (with_reducible refine Below.alloc ?_ ?_ _) | (with_reducible refine Below.setCell ?_ ?_ _) | (with_reducible refine Below.drew ?_) | (refine Below.trans ?_ (Below.mono (by with_reducible assumption) ?_)) | go_size)))).1 hl hl1).mono ?_
    rintro e w1 ⟨rfl, hb⟩
    rw [HS.out]
    go_wp2
    go_ret
    refine ⟨by simp, ?_⟩; (repeat' (first | (with_reducible exact Below.refl _ _) | (with_reducible refine Below.alloc ?_ ?_ _) | (with_reducible refine Below.setCell ?_ ?_ _) | (with_reducible refine Below.drew ?_) | (refine Below.trans ?_ (Below.mono (by with_reducible assumption) ?_)) | go_size))
/-- No two of the first k buses are feeds of one island. -/
def RadS (ls : List R3) (on : List Bool) (bs : List R2) (k : Nat) : Prop := ∀ i j, i < k → j < i → 0 < feedAt bs i → 0 < feedAt bs j → ¬ Cn ls on j i
theorem RadS.all {ls : List R3} {on : List Bool} {bs : List R2} : RadS ls on bs bs.length ↔ oneFeed ls on bs := by
  constructor
  · intro h i j fi fj hc
    rcases Nat.lt_trichotomy i j with q | q | q
    · exact absurd hc (h j i fj.1 q fj.2 fi.2)
    · exact q
    · exact absurd hc.symm (h i j fi.1 q fi.2 fj.2)
  · intro h i j hi hj fi fj hc
    have := h j i ⟨by omega, fj⟩ ⟨hi, fi⟩ hc
    omega
set_option maxRecDepth 100000 in
set_option maxHeartbeats 8000000 in
theorem specRadial_any (B : Int) (A A1 A2 : Option Addr) (c c1 c2 : Nat) (ls : List R3) (on : List Bool) (bs : List R2) (w : World) (hR : Reads 3 r3C w w.heap.size A ls) (hR1 : Reads 1 boolC w w.heap.size A1 on) (hR2 : Reads 2 r2C w w.heap.size A2 bs) (hl : ls.length ≤ 1048576) (hl1 : on.length ≤ 1048576) (hl2 : bs.length ≤ 1048576) :
    Calls Try.prog 44 #[.agg #[.int .i64 B, .slice A ls.length c], .slice A1 on.length c1, .slice A2 bs.length c2] w fun e w' => e = .returned (.bool (pB (RadP B ls on bs))) ∧ Below w.heap.size w w' := by
  have HRD : Hid (∀ W, Below w.heap.size w W → Reads 3 r3C W W.heap.size A ls ∧ Reads 1 boolC W W.heap.size A1 on ∧ Reads 2 r2C W W.heap.size A2 bs) := fun W h => ⟨(hR.below h (Nat.le_refl _)).more h.size, (hR1.below h (Nat.le_refl _)).more h.size, (hR2.below h (Nat.le_refl _)).more h.size⟩
  clear hR hR1 hR2
  have HOKC : Hid (∀ W, Below w.heap.size w W → Calls Try.prog 65 #[.agg #[.int .i64 B, .slice A ls.length c], .slice A1 on.length c1, .slice A2 bs.length c2] W fun e w' => e = .returned (.bool (fedV B ls on bs)) ∧ Below W.heap.size W w') := fun W h => l5Ok_any B A A1 A2 c c1 c2 ls on bs W (HRD.out _ h).1 (HRD.out _ h).2.2 hl hl1 hl2
  by_cases hf : FedP B ls on bs
  · have hfv := fedV_t.2 hf
    have HF := Lib.hid hf
    have hlens := hf.lens
    have hfeed := hf.feedb
    clear hf
    obtain ⟨hb8, hb1, hm10, hle, hBn⟩ := hlens
    obtain ⟨n, hn⟩ : ∃ n, bs.length = n := ⟨_, rfl⟩
    have HNL := Lib.hid hn
    rw [hn] at hb8 hb1 hBn
    subst hBn
    have HCC : Hid (∀ W, Below w.heap.size w W → Calls Try.prog 66 #[.agg #[.int .i64 (n : Int), .slice A ls.length c], .slice A1 on.length c1] W fun e w' => e = .returned (.bool (pB (cycP ls on))) ∧ Below W.heap.size W w') := fun W h => specHasCycle_any n A A1 c c1 ls on W HF.out.1.1 hle (HRD.out _ h).1 (HRD.out _ h).2.1
    have HSI : Hid (∀ W a b, Below w.heap.size w W → a < n → b < n → Calls Try.prog 67 #[.agg #[.int .i64 (n : Int), .slice A ls.length c], .slice A1 on.length c1, .int .i64 ((a : Nat) : Int), .int .i64 ((b : Nat) : Int)] W fun e w' => e = .returned (.bool (pB (Cn ls on a b))) ∧ Below W.heap.size W w') := fun W a b h ha hb => sameIsland_any n A A1 c c1 ls on a b W HF.out.1.1 hle ha hb (HRD.out _ h).1 (HRD.out _ h).2.1
    have HFB := Lib.hid hfeed
    clear hfeed hle hn
    by_cases hcy : cycP ls on
    · have hcv := pB_true hcy
      rw [pB_false (fun h : RadP n ls on bs => h.2.1 hcy)]
      clear hcy
      go_enter Try.func44, Try.ntmps44
      go_wp2_with fail
      refine (HOKC.out _ (by (repeat' (first | (with_reducible exact Below.refl _ _) | (with_reducible refine Below.alloc ?_ ?_ _) | (with_reducible refine Below.setCell ?_ ?_ _) | (with_reducible refine Below.drew ?_) | (refine Below.trans ?_ (Below.mono (by with_reducible assumption) ?_)) | go_size)))).mono ?_
      rintro e w1 ⟨rfl, hb⟩
      have cB0 := keepB hb (g := w.heap.size) (by go_size); have zB0 := keepZ hb (g := w.heap.size) (by go_size)
      have HB1 : Hid (Below w.heap.size w w1) := by unfold Hid; (repeat' (first | (with_reducible exact Below.refl _ _) | (with_reducible refine Below.alloc ?_ ?_ _) | (with_reducible refine Below.setCell ?_ ?_ _) | (with_reducible refine Below.drew ?_) | (refine Below.trans ?_ (Below.mono (by with_reducible assumption) ?_)) | go_size))
      clear hb
      go_wp2_with fail
      refine (HCC.out w1 HB1.out).mono ?_
      rintro e w2 ⟨rfl, hb2⟩
      have HB2 : Hid (Below w.heap.size w w2) := HB1.out.trans (hb2.mono HB1.out.size)
      clear hb2
      go_wp2_with fail
      go_ret
      exact ⟨rfl, HB2.out⟩
    · have hcv := pB_false hcy
      have HNC := Lib.hid hcy
      clear hcy
      generalize hV : pB (RadP n ls on bs) = V
      have HV := Lib.hid hV; clear hV
      go_enter Try.func44, Try.ntmps44
      go_wp2_with fail
      refine (HOKC.out _ (by (repeat' (first | (with_reducible exact Below.refl _ _) | (with_reducible refine Below.alloc ?_ ?_ _) | (with_reducible refine Below.setCell ?_ ?_ _) | (with_reducible refine Below.drew ?_) | (refine Below.trans ?_ (Below.mono (by with_reducible assumption) ?_)) | go_size)))).mono ?_
      rintro e w1 ⟨rfl, hb⟩
      have HK1 : Hid (Bk w1 w.heap.size 30 #[.int .i64 (n : Int), .slice A ls.length c]) := (Bk.new _ _ _).keep hb
      have HB1 : Hid (Below w.heap.size w w1) := by unfold Hid; (repeat' (first | (with_reducible exact Below.refl _ _) | (with_reducible refine Below.alloc ?_ ?_ _) | (with_reducible refine Below.setCell ?_ ?_ _) | (with_reducible refine Below.drew ?_) | (refine Below.trans ?_ (Below.mono (by with_reducible assumption) ?_)) | go_size))
      clear hb
      have cK := HK1.out.cell; have zK := HK1.out.lt
      go_wp2_with fail
      refine (HCC.out w1 HB1.out).mono ?_
      rintro e w2 ⟨rfl, hb2⟩
      have HK2 := Lib.hid (HK1.out.keep hb2)
      have HB2 : Hid (Below w.heap.size w w2) := HB1.out.trans (hb2.mono HB1.out.size)
      clear hb2 cK zK HK1 HB1
      have HR0 : Hid (RadS ls on bs 0) := fun i j hi => by omega
      go_wp2_with fail
      go_loopw [7] (fun t wr => ∃ k : Nat, t = .int .i64 k ∧ k ≤ n ∧ Hid (RadS ls on bs k) ∧ Hid (Bk wr w.heap.size 30 #[.int .i64 (n : Int), .slice A ls.length c]) ∧ Hid (Below w.heap.size w wr)) (fun t _ => n - (intOf t).toNat)
      case atStart => exact ⟨0, rfl, Nat.zero_le _, HR0, HK2, HB2⟩
      case round =>
        obtain ⟨k, rfl, hk, HRS, HK, HB⟩ := hrel
        clear HR0 HK2 HB2
        have cK := HK.out.cell; have zK := HK.out.lt
        by_cases hlt : k < n
        · have hk1 : (k : Int) < (n : Int) := by omega
          have hkb : k < bs.length := by rw [HNL.out]; exact hlt
          have HJ0 : Hid (∀ j, j < 0 → 0 < feedAt bs k → 0 < feedAt bs j → ¬ Cn ls on j k) := fun j hj => by omega
          go_wp2_with fail
          go_loopw [8] (fun t wr => ∃ j : Nat, t = .int .i64 j ∧ j ≤ k ∧ Hid (∀ j', j' < j → 0 < feedAt bs k → 0 < feedAt bs j' → ¬ Cn ls on j' k) ∧ Hid (Bk wr w.heap.size 30 #[.int .i64 (n : Int), .slice A ls.length c]) ∧ Hid (Below w.heap.size w wr)) (fun t _ => k - (intOf t).toNat)
          case atStart => exact ⟨0, rfl, Nat.zero_le _, HJ0, HK, HB⟩
          case round =>
            clear HJ0 HK HB cK zK
            obtain ⟨j, rfl, hj, HJ, HK, HB⟩ := hrel
            have cK := HK.out.cell; have zK := HK.out.lt
            by_cases hjk : j < k
            · have hjb : j < bs.length := by omega
              have hj1 : (j : Int) < (k : Int) := by omega
              have hj2 : (j : Int) < (n : Int) := by omega
              obtain ⟨lb, lo, rfl, hlb, hc0, -⟩ := (HRD.out _ HB.out).2.2.at2 hkb
              obtain ⟨lb', lo', e', hlb', hd0, -⟩ := (HRD.out _ HB.out).2.2.at2 hjb
              injection e' with e'; injection e' with e1 e2; subst e1 e2
              have hfk : feedAt bs k = bs[k].a := by unfold feedAt; rw [getD_lt hkb]
              have hfj : feedAt bs j = bs[j].a := by unfold feedAt; rw [getD_lt hjb]
              generalize bs[k].a = x at hc0 hfk
              generalize bs[j].a = y at hd0 hfj
              have HFK := Lib.hid (And.intro hfk hfj)
              clear hfk hfj
              rw [HNL.out]
              have HNX : Hid ((0 < x → 0 < y → ¬ Cn ls on j k) → ∀ j', j' < j + 1 → 0 < feedAt bs k → 0 < feedAt bs j' → ¬ Cn ls on j' k) := by
                intro h j' hj' h1 h2
                by_cases e : j' = j
                · subst e; exact h (by rw [← HFK.out.1]; exact h1) (by rw [← HFK.out.2]; exact h2)
                · exact HJ.out j' (by omega) h1 h2
              by_cases hx0 : (0 : Int) < x
              · by_cases hy0 : (0 : Int) < y
                · go_wp2_with fail
                  refine (HSI.out wr j k HB.out (by omega) hlt).mono ?_
                  rintro e w3 ⟨rfl, hb3⟩
                  have HK3 := Lib.hid (HK.out.keep hb3)
                  have HB3 : Hid (Below w.heap.size w w3) := HB.out.trans (hb3.mono HB.out.size)
                  clear hb3
                  by_cases hcn : Cn ls on j k
                  · rw [pB_true hcn]
                    have HVV : Hid (V = false) := by
                      unfold Hid; rw [← HV.out]
                      refine pB_false (fun h => ?_)
                      exact (RadS.all.2 h.2.2) k j (by rw [HNL.out]; exact hlt) hjk (by rw [HFK.out.1]; exact hx0) (by rw [HFK.out.2]; exact hy0) hcn
                    clear hcn
                    go_wp2_with fail
                    go_ret
                    exact ⟨by rw [HVV.out]; rfl, HB3.out⟩
                  · rw [pB_false hcn]
                    have HJN := Lib.hid (HNX.out (fun _ _ => hcn))
                    clear hcn
                    go_wp2_with fail
                    exact ⟨⟨j + 1, by go_num, by omega, HJN, HK3, HB3⟩, by simp [intOf]; omega⟩
                · have HJN := Lib.hid (HNX.out (fun _ h => absurd h hy0))
                  go_wp2_with fail
                  exact ⟨⟨j + 1, by go_num, by omega, HJN, HK, HB⟩, by simp [intOf]; omega⟩
              · have HJN := Lib.hid (HNX.out (fun h => absurd h hx0))
                go_wp2_with fail
                exact ⟨⟨j + 1, by go_num, by omega, HJN, HK, HB⟩, by simp [intOf]; omega⟩
            · obtain rfl : j = k := by omega
              have HRN : Hid (RadS ls on bs (j + 1)) := by
                intro a b ha hb fa fb
                by_cases e : a = j
                · subst e; exact HJ.out b hb fa fb
                · exact HRS.out a b (by omega) hb fa fb
              go_wp2_with fail
              exact ⟨⟨j + 1, by go_num, by omega, HRN, HK, HB⟩, by simp [intOf]; omega⟩
        · obtain rfl : k = n := by omega
          have HVV : Hid (V = true) := by
            unfold Hid; rw [← HV.out]
            exact pB_true ⟨HF.out, HNC.out, RadS.all.1 (by rw [HNL.out]; exact HRS.out)⟩
          go_wp2_with fail
          go_ret
          exact ⟨by rw [HVV.out]; rfl, HB.out⟩
  · have hfv := fedV_f.2 hf
    rw [pB_false (fun h : RadP B ls on bs => hf h.1)]
    clear hf
    go_enter Try.func44, Try.ntmps44
    go_wp2_with fail
    refine (HOKC.out _ (by (repeat' (first | (with_reducible exact Below.refl _ _) | (with_reducible refine Below.alloc ?_ ?_ _) | (with_reducible refine Below.setCell ?_ ?_ _) | (with_reducible refine Below.drew ?_) | (refine Below.trans ?_ (Below.mono (by with_reducible assumption) ?_)) | go_size)))).mono ?_
    rintro e w1 ⟨rfl, hb⟩
    go_wp2_with fail
    go_ret
    refine ⟨rfl, ?_⟩; (repeat' (first | (with_reducible exact Below.refl _ _) | (with_reducible refine Below.alloc ?_ ?_ _) | (with_reducible refine Below.setCell ?_ ?_ _) | (with_reducible refine Below.drew ?_) | (refine Below.trans ?_ (Below.mono (by with_reducible assumption) ?_)) | go_size))
end Go.Proofs.Ytdfgdeccejcpfaa
