/- The reference's feeds and loads of islands, who is alive, ZoneLoad. -/
import Derived.Test.YtdfgdeccejcpfaaSpD
import Derived.Test.YtdfgdeccejcpfaaZoD
import Derived.Test.YtdfgdeccejcpfaaZl
namespace Go.Proofs.Ytdfgdeccejcpfaa
open Go.RowKit Go.Deep
set_option linter.unusedSimpArgs false
set_option linter.unusedVariables false

set_option maxRecDepth 100000 in
set_option maxHeartbeats 8000000 in
theorem islandFeed_any (n : Nat) (A A1 A2 : Option Addr) (c c1 c2 : Nat) (ls : List R3) (on : List Bool) (bs : List R2) (bus : Nat) (w : World) (hf : FedP n ls on bs) (hbus : bus < n) (hR : Reads 3 r3C w w.heap.size A ls) (hR1 : Reads 1 boolC w w.heap.size A1 on) (hR2 : Reads 2 r2C w w.heap.size A2 bs) :
    Calls Try.prog 68 #[.agg #[.int .i64 (n : Int), .slice A ls.length c], .slice A1 on.length c1, .slice A2 bs.length c2, .int .i64 (bus : Int)] w fun e w' => e = .returned (.int .i64 (sumN (fun j => feedAt bs j * f01 (Cn ls on bus j)) n)) ∧ Below w.heap.size w w' := by
  have HRD : Hid (∀ W, Below w.heap.size w W → Reads 3 r3C W W.heap.size A ls ∧ Reads 1 boolC W W.heap.size A1 on ∧ Reads 2 r2C W W.heap.size A2 bs) := fun W h => ⟨(hR.below h (Nat.le_refl _)).more h.size, (hR1.below h (Nat.le_refl _)).more h.size, (hR2.below h (Nat.le_refl _)).more h.size⟩
  clear hR hR1 hR2
  have hlens := hf.lens
  obtain ⟨hb8, hb1, hm10, hle, hBn⟩ := hlens
  have hfv := fedV_t.2 hf
  have HF := Lib.hid hf
  have hnb : bs.length = n := by omega
  have HNB := Lib.hid hnb
  have HLE := Lib.hid hle
  have HOKC : Hid (∀ W, Below w.heap.size w W → Calls Try.prog 65 #[.agg #[.int .i64 (n : Int), .slice A ls.length c], .slice A1 on.length c1, .slice A2 bs.length c2] W fun e w' => e = .returned (.bool true) ∧ Below W.heap.size W w') := fun W h => by
    have q := l5Ok_any n A A1 A2 c c1 c2 ls on bs W (HRD.out _ h).1 (HRD.out _ h).2.2 (by omega) (by omega) (by omega)
    rw [hfv] at q; exact q
  have hsum : zrun (feedAt bs) (idxL (fun k => (reach ls on n bus).getD k false) n) (idxL (fun k => (reach ls on n bus).getD k false) n).length = sumN (fun j => feedAt bs j * f01 (Cn ls on bus j)) n := by
    rw [zrun_all (idxL_zone _ n)]
    refine sumN_congr fun x hx => ?_
    congr 1
    refine f01_congr ?_
    have h := reach_pB (HF.out.1.1.ends HF.out.1.2 rfl) hbus hx
    constructor
    · intro hm; rw [decide_eq_true hm] at h; exact pB_t.1 h.symm
    · intro hm; rw [pB_true hm] at h; exact of_decide_eq_true h
  rw [← hsum]
  clear hsum
  have hz := idxL_zone (fun k => (reach ls on n bus).getD k false) n
  have hz8 := idxL_len (fun k => (reach ls on n bus).getD k false) n
  have HRC : Hid (∀ W, Below w.heap.size w W → Calls Try.prog 73 #[.agg #[.int .i64 (n : Int), .slice A ls.length c], .slice A1 on.length c1, .int .i64 (bus : Int)] W (RetS 1 intC 3 W (idxL (fun k => (reach ls on n bus).getD k false) n))) := fun W h => reached_any n A A1 c c1 ls on bus W HF.out.1.1 HLE.out hbus (HRD.out _ h).1 (HRD.out _ h).2.1
  generalize idxL (fun k => (reach ls on n bus).getD k false) n = zs at hz hz8 HRC ⊢
  have HZ := Lib.hid hz
  have HBD : Hid (∀ x, 0 ≤ feedAt bs x ∧ feedAt bs x ≤ 999) := HF.out.feedb
  have hi0 : inB (bus : Int) 0 ((n : Int) - 1) = true := inB_t.2 (by omega)
  clear hz hf hfv hle hnb
  go_enter Try.func68, Try.ntmps68
  go_wp2_with fail
  refine (HOKC.out _ (by (repeat' (first | (with_reducible exact Below.refl _ _) | (with_reducible refine Below.alloc ?_ ?_ _) | (with_reducible refine Below.setCell ?_ ?_ _) | (with_reducible refine Below.drew ?_) | (refine Below.trans ?_ (Below.mono (by with_reducible assumption) ?_)) | go_size)))).mono ?_
  rintro e w1 ⟨rfl, hb⟩
  have cB0 := keepB hb (g := w.heap.size) (by go_size); have zB0 := keepZ hb (g := w.heap.size) (by go_size)
  have HB1 : Hid (Below w.heap.size w w1) := by unfold Hid; (repeat' (first | (with_reducible exact Below.refl _ _) | (with_reducible refine Below.alloc ?_ ?_ _) | (with_reducible refine Below.setCell ?_ ?_ _) | (with_reducible refine Below.drew ?_) | (refine Below.trans ?_ (Below.mono (by with_reducible assumption) ?_)) | go_size))
  clear hb
  go_wp2_with (go_at_call 38; (with_reducible refine (l1In_any _ _ _ _).mono ?_); rintro e w' ⟨rfl, rfl⟩)
  refine (HRC.out w1 HB1.out).mono ?_
  rintro e w2 ⟨v, rfl, hres, hb2⟩
  have HB2 : Hid (Below w.heap.size w w2) := HB1.out.trans (hb2.mono HB1.out.size)
  have HRS := Lib.hid hres
  obtain ⟨zA, zc, rfl, -⟩ := hres
  clear hb2 cB0 zB0 hi0 HB1
  go_wp2_with fail
  go_loopw [9, 11] (fun t9 t11 wr => ∃ (i : Nat) (T : Int), t11 = .int .i64 i ∧ t9 = .int .i64 T ∧ i ≤ zs.length ∧ Hid (T = zrun (feedAt bs) zs i) ∧ w2 = wr) (fun _ t11 _ => zs.length - (intOf t11).toNat)
  case atStart => exact ⟨0, 0, rfl, rfl, Nat.zero_le _, rfl, rfl⟩
  case round =>
    obtain ⟨i, T, rfl, rfl, hi, HTT, rfl⟩ := hrel
    by_cases hlt : i < zs.length
    · obtain ⟨zb, zo, rfl, hzb, hzc⟩ := HRS.out.reads.1.at1 hlt
      unfold intC at hzc
      have hzz := HZ.out i hlt
      rw [getD_lt hlt] at hzz
      obtain ⟨x, hx⟩ : ∃ x : Nat, zs[i] = (x : Int) := ⟨zs[i].toNat, by omega⟩
      have hstep : zrun (feedAt bs) zs (i + 1) = zrun (feedAt bs) zs i + feedAt bs x := by show zrun (feedAt bs) zs i + feedAt bs (zs.getD i 0).toNat = _; rw [getD_lt hlt, hx, Int.toNat_natCast]
      rw [hx] at hzc hzz
      clear hx
      have hxb : x < bs.length := by rw [HNB.out]; omega
      obtain ⟨lb, lo, rfl, hlb, hc0, hc1⟩ := (HRD.out _ HB2.out).2.2.at2 hxb
      have hla : feedAt bs x = bs[x].a := by unfold feedAt; rw [getD_lt hxb]
      have hlb2 := HBD.out x
      generalize hzl : bs[x].a = zl at hc0 hla
      rw [hla] at hstep hlb2
      have hTb := zrun_bd (zs := zs) HBD.out i
      rw [← HTT.out] at hTb hstep
      have HN : Hid (T + zl = zrun (feedAt bs) zs (i + 1)) := hstep.symm
      have hx1 : (x : Int) < (n : Int) := by omega
      have hi1 : (i : Int) < (zs.length : Int) := by omega
      have hw : IntKind.i64.wrap (T + zl) = T + zl := IntWalk.i64_in _ (by omega)
      rw [HNB.out]
      clear hla hstep hzl hzz
      go_wp2_with fail
      exact ⟨⟨i + 1, T + zl, by go_num, rfl, by omega, HN, by first | rfl | trivial⟩, by simp [intOf]; omega⟩
    · obtain rfl : i = zs.length := by omega
      go_wp2_with fail
      go_ret
      exact ⟨by rw [← HTT.out]; rfl, HB2.out⟩
set_option maxRecDepth 100000 in
set_option maxHeartbeats 8000000 in
theorem islandLoad_any (n : Nat) (A A1 A2 : Option Addr) (c c1 c2 : Nat) (ls : List R3) (on : List Bool) (bs : List R2) (bus : Nat) (w : World) (hf : FedP n ls on bs) (hbus : bus < n) (hR : Reads 3 r3C w w.heap.size A ls) (hR1 : Reads 1 boolC w w.heap.size A1 on) (hR2 : Reads 2 r2C w w.heap.size A2 bs) :
    Calls Try.prog 52 #[.agg #[.int .i64 (n : Int), .slice A ls.length c], .slice A1 on.length c1, .slice A2 bs.length c2, .int .i64 (bus : Int)] w fun e w' => e = .returned (.int .i64 (sumN (fun j => loadAt bs j * f01 (Cn ls on bus j)) n)) ∧ Below w.heap.size w w' := by
  have HRD : Hid (∀ W, Below w.heap.size w W → Reads 3 r3C W W.heap.size A ls ∧ Reads 1 boolC W W.heap.size A1 on ∧ Reads 2 r2C W W.heap.size A2 bs) := fun W h => ⟨(hR.below h (Nat.le_refl _)).more h.size, (hR1.below h (Nat.le_refl _)).more h.size, (hR2.below h (Nat.le_refl _)).more h.size⟩
  clear hR hR1 hR2
  have hlens := hf.lens
  obtain ⟨hb8, hb1, hm10, hle, hBn⟩ := hlens
  have hfv := fedV_t.2 hf
  have HF := Lib.hid hf
  have hnb : bs.length = n := by omega
  have HNB := Lib.hid hnb
  have HLE := Lib.hid hle
  have HOKC : Hid (∀ W, Below w.heap.size w W → Calls Try.prog 65 #[.agg #[.int .i64 (n : Int), .slice A ls.length c], .slice A1 on.length c1, .slice A2 bs.length c2] W fun e w' => e = .returned (.bool true) ∧ Below W.heap.size W w') := fun W h => by
    have q := l5Ok_any n A A1 A2 c c1 c2 ls on bs W (HRD.out _ h).1 (HRD.out _ h).2.2 (by omega) (by omega) (by omega)
    rw [hfv] at q; exact q
  have hsum : zrun (loadAt bs) (idxL (fun k => (reach ls on n bus).getD k false) n) (idxL (fun k => (reach ls on n bus).getD k false) n).length = sumN (fun j => loadAt bs j * f01 (Cn ls on bus j)) n := by
    rw [zrun_all (idxL_zone _ n)]
    refine sumN_congr fun x hx => ?_
    congr 1
    refine f01_congr ?_
    have h := reach_pB (HF.out.1.1.ends HF.out.1.2 rfl) hbus hx
    constructor
    · intro hm; rw [decide_eq_true hm] at h; exact pB_t.1 h.symm
    · intro hm; rw [pB_true hm] at h; exact of_decide_eq_true h
  rw [← hsum]
  clear hsum
  have hz := idxL_zone (fun k => (reach ls on n bus).getD k false) n
  have hz8 := idxL_len (fun k => (reach ls on n bus).getD k false) n
  have HRC : Hid (∀ W, Below w.heap.size w W → Calls Try.prog 73 #[.agg #[.int .i64 (n : Int), .slice A ls.length c], .slice A1 on.length c1, .int .i64 (bus : Int)] W (RetS 1 intC 3 W (idxL (fun k => (reach ls on n bus).getD k false) n))) := fun W h => reached_any n A A1 c c1 ls on bus W HF.out.1.1 HLE.out hbus (HRD.out _ h).1 (HRD.out _ h).2.1
  generalize idxL (fun k => (reach ls on n bus).getD k false) n = zs at hz hz8 HRC ⊢
  have HZ := Lib.hid hz
  have HBD : Hid (∀ x, 0 ≤ loadAt bs x ∧ loadAt bs x ≤ 999) := HF.out.load
  have hi0 : inB (bus : Int) 0 ((n : Int) - 1) = true := inB_t.2 (by omega)
  clear hz hf hfv hle hnb
  go_enter Try.func52, Try.ntmps52
  go_wp2_with fail
  refine (HOKC.out _ (by (repeat' (first | (with_reducible exact Below.refl _ _) | (with_reducible refine Below.alloc ?_ ?_ _) | (with_reducible refine Below.setCell ?_ ?_ _) | (with_reducible refine Below.drew ?_) | (refine Below.trans ?_ (Below.mono (by with_reducible assumption) ?_)) | go_size)))).mono ?_
  rintro e w1 ⟨rfl, hb⟩
  have cB0 := keepB hb (g := w.heap.size) (by go_size); have zB0 := keepZ hb (g := w.heap.size) (by go_size)
  have HB1 : Hid (Below w.heap.size w w1) := by unfold Hid; (repeat' (first | (with_reducible exact Below.refl _ _) | (with_reducible refine Below.alloc ?_ ?_ _) | (with_reducible refine Below.setCell ?_ ?_ _) | (with_reducible refine Below.drew ?_) | (refine Below.trans ?_ (Below.mono (by with_reducible assumption) ?_)) | go_size))
  clear hb
  go_wp2_with (go_at_call 38; (with_reducible refine (l1In_any _ _ _ _).mono ?_); rintro e w' ⟨rfl, rfl⟩)
  refine (HRC.out w1 HB1.out).mono ?_
  rintro e w2 ⟨v, rfl, hres, hb2⟩
  have HB2 : Hid (Below w.heap.size w w2) := HB1.out.trans (hb2.mono HB1.out.size)
  have HRS := Lib.hid hres
  obtain ⟨zA, zc, rfl, -⟩ := hres
  clear hb2 cB0 zB0 hi0 HB1
  go_wp2_with fail
  go_loopw [9, 11] (fun t9 t11 wr => ∃ (i : Nat) (T : Int), t11 = .int .i64 i ∧ t9 = .int .i64 T ∧ i ≤ zs.length ∧ Hid (T = zrun (loadAt bs) zs i) ∧ w2 = wr) (fun _ t11 _ => zs.length - (intOf t11).toNat)
  case atStart => exact ⟨0, 0, rfl, rfl, Nat.zero_le _, rfl, rfl⟩
  case round =>
    obtain ⟨i, T, rfl, rfl, hi, HTT, rfl⟩ := hrel
    by_cases hlt : i < zs.length
    · obtain ⟨zb, zo, rfl, hzb, hzc⟩ := HRS.out.reads.1.at1 hlt
      unfold intC at hzc
      have hzz := HZ.out i hlt
      rw [getD_lt hlt] at hzz
      obtain ⟨x, hx⟩ : ∃ x : Nat, zs[i] = (x : Int) := ⟨zs[i].toNat, by omega⟩
      have hstep : zrun (loadAt bs) zs (i + 1) = zrun (loadAt bs) zs i + loadAt bs x := by show zrun (loadAt bs) zs i + loadAt bs (zs.getD i 0).toNat = _; rw [getD_lt hlt, hx, Int.toNat_natCast]
      rw [hx] at hzc hzz
      clear hx
      have hxb : x < bs.length := by rw [HNB.out]; omega
      obtain ⟨lb, lo, rfl, hlb, hc0, hc1⟩ := (HRD.out _ HB2.out).2.2.at2 hxb
      have hla : loadAt bs x = bs[x].b := by unfold loadAt; rw [getD_lt hxb]
      have hlb2 := HBD.out x
      generalize hzl : bs[x].b = zl at hc1 hla
      rw [hla] at hstep hlb2
      have hTb := zrun_bd (zs := zs) HBD.out i
      rw [← HTT.out] at hTb hstep
      have HN : Hid (T + zl = zrun (loadAt bs) zs (i + 1)) := hstep.symm
      have hx1 : (x : Int) < (n : Int) := by omega
      have hi1 : (i : Int) < (zs.length : Int) := by omega
      have hw : IntKind.i64.wrap (T + zl) = T + zl := IntWalk.i64_in _ (by omega)
      rw [HNB.out]
      clear hla hstep hzl hzz
      go_wp2_with fail
      exact ⟨⟨i + 1, T + zl, by go_num, rfl, by omega, HN, by first | rfl | trivial⟩, by simp [intOf]; omega⟩
    · obtain rfl : i = zs.length := by omega
      go_wp2_with fail
      go_ret
      exact ⟨by rw [← HTT.out]; rfl, HB2.out⟩
end Go.Proofs.Ytdfgdeccejcpfaa
