/- spec.ZoneLoad. -/
import Derived.Test.YtdfgdeccejcpfaaSpF
namespace Go.Proofs.Ytdfgdeccejcpfaa
open Go.RowKit Go.Deep
set_option linter.unusedSimpArgs false
set_option linter.unusedVariables false

set_option maxRecDepth 100000 in
set_option maxHeartbeats 8000000 in
theorem specZoneLoad_any (B : Int) (A A1 A2 A3 : Option Addr) (c c1 c2 c3 : Nat) (ls : List R3) (on : List Bool) (bs : List R2) (zs : List Int) (w : World) (hR : Reads 3 r3C w w.heap.size A ls) (hR1 : Reads 1 boolC w w.heap.size A1 on) (hR2 : Reads 2 r2C w w.heap.size A2 bs) (hR3 : Reads 1 intC w w.heap.size A3 zs) (hl : ls.length ≤ 1048576) (hl1 : on.length ≤ 1048576) (hl2 : bs.length ≤ 1048576) (hl3 : zs.length ≤ 1048576) :
    Calls Try.prog 16 #[.agg #[.int .i64 B, .slice A ls.length c], .slice A1 on.length c1, .slice A2 bs.length c2, .slice A3 zs.length c3] w fun e w' => e = .returned (.int .i64 (zlV B ls on bs zs)) ∧ Below w.heap.size w w' := by
  have HRX : ∀ W, Below w.heap.size w W → Reads 3 r3C W W.heap.size A ls ∧ Reads 1 boolC W W.heap.size A1 on ∧ Reads 2 r2C W W.heap.size A2 bs ∧ Reads 1 intC W W.heap.size A3 zs := fun W h => ⟨(hR.below h (Nat.le_refl _)).more h.size, (hR1.below h (Nat.le_refl _)).more h.size, (hR2.below h (Nat.le_refl _)).more h.size, (hR3.below h (Nat.le_refl _)).more h.size⟩
  have HRD := Lib.hid HRX; clear HRX hR hR1 hR2 hR3
  by_cases hrad : RadP B ls on bs
  · have hrv := pB_true hrad
    have HRV := Lib.hid hrv
    have HRA := Lib.hid hrad
    clear hrv hrad
    go_enter Try.func16, Try.ntmps16
    go_wp2_with fail
    refine (specRadial_any B A A1 A2 c c1 c2 ls on bs _ (HRD.out _ (by (repeat' (first | (with_reducible exact Below.refl _ _) | (with_reducible refine Below.alloc ?_ ?_ _) | (with_reducible refine Below.setCell ?_ ?_ _) | (with_reducible refine Below.drew ?_) | (refine Below.trans ?_ (Below.mono (by with_reducible assumption) ?_)) | go_size)))).1 (HRD.out _ (by (repeat' (first | (with_reducible exact Below.refl _ _) | (with_reducible refine Below.alloc ?_ ?_ _) | (with_reducible refine Below.setCell ?_ ?_ _) | (with_reducible refine Below.drew ?_) | (refine Below.trans ?_ (Below.mono (by with_reducible assumption) ?_)) | go_size)))).2.1 (HRD.out _ (by (repeat' (first | (with_reducible exact Below.refl _ _) | (with_reducible refine Below.alloc ?_ ?_ _) | (with_reducible refine Below.setCell ?_ ?_ _) | (with_reducible refine Below.drew ?_) | (refine Below.trans ?_ (Below.mono (by with_reducible assumption) ?_)) | go_size)))).2.2.1 hl hl1 hl2).mono ?_
    rintro e w1 ⟨rfl, hb1⟩
    rw [HRV.out]
    have HG1 : Hid (Bk w1 w.heap.size 30 #[.int .i64 B, .slice A ls.length c]) := (Bk.new _ _ _).keep hb1
    have HB1 : Hid (Below w.heap.size w w1) := by unfold Hid; (repeat' (first | (with_reducible exact Below.refl _ _) | (with_reducible refine Below.alloc ?_ ?_ _) | (with_reducible refine Below.setCell ?_ ?_ _) | (with_reducible refine Below.drew ?_) | (refine Below.trans ?_ (Below.mono (by with_reducible assumption) ?_)) | go_size))
    clear hb1
    have cG := HG1.out.cell; have zG := HG1.out.lt
    go_wp2_with fail
    refine (specZoneValid_any B A A3 c c3 ls zs _ (HRD.out _ HB1.out).1 (HRD.out _ HB1.out).2.2.2 hl hl3).mono ?_
    rintro e w2 ⟨rfl, hb2⟩
    have hnv : netV B ls = true := netV_t.2 HRA.out.1.1.1
    rw [hnv, Bool.true_and]
    clear hnv cG zG
    have HG2 := Lib.hid (HG1.out.keep hb2)
    have HB2 : Hid (Below w.heap.size w w2) := HB1.out.trans (hb2.mono HB1.out.size)
    clear hb2
    by_cases hz : ZoneP B zs
    · rw [zoneV_t.2 hz]
      have HZ := Lib.hid hz
      have hzs8 : zs.length ≤ 8 := by
        have h1 := hz.short (by have := HRA.out.1.1.1.1; omega)
        have h2 := HRA.out.1.1.1.2.1
        omega
      clear hz
      obtain ⟨n, hn⟩ : ∃ n : Nat, B = n := ⟨B.toNat, by have := HRA.out.1.1.1.1; omega⟩
      subst hn
      have hbn : bs.length = n := by have := HRA.out.1.2.1; omega
      have HBN := Lib.hid hbn
      have HEND := Lib.hid (zl_ends HRA.out HZ.out (fun x => if (x : Int) ∈ idxL (fun k => pB (aliveP ls on bs k)) n then loadAt bs x else 0) (fun x hx => by
        by_cases h : aliveP ls on bs x
        · have hm : (x : Int) ∈ idxL (fun k => pB (aliveP ls on bs k)) n := idxL_mem.2 ⟨x, rfl, by omega, pB_true h⟩
          show (if (x : Int) ∈ idxL (fun k => pB (aliveP ls on bs k)) n then loadAt bs x else 0) = _
          rw [if_pos hm, f01_t h, Int.mul_one]
        · have hn : ¬ (x : Int) ∈ idxL (fun k => pB (aliveP ls on bs k)) n := fun q => by
            obtain ⟨k, e, _, hk⟩ := idxL_mem.1 q
            have : k = x := by omega
            subst this
            exact h (pB_t.1 hk)
          show (if (x : Int) ∈ idxL (fun k => pB (aliveP ls on bs k)) n then loadAt bs x else 0) = _
          rw [if_neg hn, f01_f h, Int.mul_zero]))
      have hal := idxL_len (fun k => pB (aliveP ls on bs k)) n
      have hn8 : n ≤ 8 := by have := HRA.out.1.1.1.2.1; omega
      have HAC : Hid (∀ W, Below w.heap.size w W → Calls Try.prog 45 #[.agg #[.int .i64 (n : Int), .slice A ls.length c], .slice A1 on.length c1, .slice A2 bs.length c2] W (RetS 1 intC 3 W (idxL (fun k => pB (aliveP ls on bs k)) n))) := fun W h => specAlive_any n A A1 A2 c c1 c2 ls on bs W HRA.out.1 (HRD.out _ h).1 (HRD.out _ h).2.1 (HRD.out _ h).2.2.1
      generalize idxL (fun k => pB (aliveP ls on bs k)) n = al at HEND hal HAC
      have HBD : Hid (∀ x, 0 ≤ (fun (x : Nat) => if (x : Int) ∈ al then loadAt bs x else 0) x ∧ (fun (x : Nat) => if (x : Int) ∈ al then loadAt bs x else 0) x ≤ 999) := fun x => by
        have := HRA.out.1.load x
        simp only
        split <;> omega
      generalize hgg : (fun (x : Nat) => if (x : Int) ∈ al then loadAt bs x else 0) = g at HEND HBD
      have HGG := Lib.hid hgg; clear hgg
      have cG := HG2.out.cell; have zG := HG2.out.lt
      clear hbn
      go_wp2_with fail
      with_reducible refine (HAC.out w2 HB2.out).mono ?_
      rintro e w3 ⟨v, rfl, hres, hb3⟩
      have HB3 : Hid (Below w.heap.size w w3) := HB2.out.trans (hb3.mono HB2.out.size)
      have HAL := Lib.hid hres
      obtain ⟨aA, ac, rfl, -⟩ := hres
      clear hb3 cG zG
      go_wp2_with fail
      go_loopw [9, 11] (fun t9 t wr => ∃ (i : Nat) (T : Int), t = .int .i64 i ∧ t9 = .int .i64 T ∧ i ≤ zs.length ∧ Hid (T = zrun g zs i) ∧ w3 = wr) (fun _ t _ => zs.length - (intOf t).toNat)
      case atStart => exact ⟨0, 0, rfl, rfl, Nat.zero_le _, rfl, rfl⟩
      case round =>
        obtain ⟨i, T, rfl, rfl, hi, HTT, rfl⟩ := hrel
        by_cases hlt : i < zs.length
        · obtain ⟨zb, zo, rfl, hzb, hzc⟩ := (HRD.out _ HB3.out).2.2.2.at1 hlt
          unfold intC at hzc
          have hzz := HZ.out i hlt
          rw [getD_lt hlt] at hzz
          obtain ⟨x, hx⟩ : ∃ x : Nat, zs[i] = (x : Int) := ⟨zs[i].toNat, by omega⟩
          have hstep : zrun g zs (i + 1) = zrun g zs i + g x := by show zrun g zs i + g (zs.getD i 0).toNat = _; rw [getD_lt hlt, hx, Int.toNat_natCast]
          rw [hx] at hzc hzz
          clear hx
          have hxb : x < bs.length := by rw [HBN.out]; omega
          obtain ⟨lb, lo, rfl, hlb, hc0, hc1⟩ := (HRD.out _ HB3.out).2.2.1.at2 hxb
          have hla : loadAt bs x = bs[x].b := by unfold loadAt; rw [getD_lt hxb]
          have hlb2 := HRA.out.1.load x
          generalize bs[x].a = za at hc0
          generalize hzl : bs[x].b = zl at hc1 hla
          have hgx := congrFun HGG.out x
          try simp only at hgx
          rw [hla] at hgx hlb2
          have hTb := zrun_bd (zs := zs) HBD.out i
          rw [← HTT.out] at hTb hstep
          have HS := Lib.hid hstep; have HGX := Lib.hid hgx
          have hx1 : (x : Int) < (bs.length : Int) := by omega
          have hi1 : (i : Int) < (zs.length : Int) := by omega
          clear hla hstep hgx hzl hzz
          by_cases hm : (x : Int) ∈ al
          · have HN : Hid (T + zl = zrun g zs (i + 1)) := by have := HGX.out; rw [if_pos hm] at this; unfold Hid; rw [HS.out, this]
            have hw : IntKind.i64.wrap (T + zl) = T + zl := IntWalk.i64_in _ (by omega)
            have hdm := decide_eq_true hm
            have HDM := Lib.hid hdm
            clear hdm hm
            go_wp2_with fail
            refine (l1Has_any aA al.length ac al x _ rfl HAL.out.reads.1 (by omega)).mono ?_
            rintro e w4 ⟨rfl, rfl⟩
            rw [HDM.out]
            go_wp2_with fail
            exact ⟨⟨i + 1, T + zl, by go_num, rfl, by omega, HN, by first | rfl | trivial⟩, by simp [intOf]; omega⟩
          · have HN : Hid (T = zrun g zs (i + 1)) := by have := HGX.out; rw [if_neg hm] at this; unfold Hid; rw [HS.out, ← this]; omega
            have hdm := decide_eq_false hm
            have HDM := Lib.hid hdm
            clear hdm hm
            go_wp2_with fail
            refine (l1Has_any aA al.length ac al x _ rfl HAL.out.reads.1 (by omega)).mono ?_
            rintro e w4 ⟨rfl, rfl⟩
            rw [HDM.out]
            go_wp2_with fail
            exact ⟨⟨i + 1, T, by go_num, rfl, by omega, HN, by first | rfl | trivial⟩, by simp [intOf]; omega⟩
        · obtain rfl : i = zs.length := by omega
          rw [HEND.out] at HTT
          go_wp2_with fail
          go_ret
          exact ⟨by rw [← HTT.out]; rfl, HB3.out⟩
    · rw [zoneV_f.2 hz]
      have HNZ : Hid (zlV B ls on bs zs = -1) := zlV_f (fun h => hz h.2)
      clear hz
      go_wp2_with fail
      go_ret
      exact ⟨by rw [HNZ.out]; rfl, HB2.out⟩
  · have hrv := pB_false hrad
    have HRV := Lib.hid hrv
    have HNZ : Hid (zlV B ls on bs zs = -1) := zlV_f (fun h => hrad h.1)
    clear hrv hrad
    go_enter Try.func16, Try.ntmps16
    go_wp2_with fail
    refine (specRadial_any B A A1 A2 c c1 c2 ls on bs _ (HRD.out _ (by (repeat' (first | (with_reducible exact Below.refl _ _) | (with_reducible refine Below.alloc ?_ ?_ _) | (with_reducible refine Below.setCell ?_ ?_ _) | (with_reducible refine Below.drew ?_) | (refine Below.trans ?_ (Below.mono (by with_reducible assumption) ?_)) | go_size)))).1 (HRD.out _ (by (repeat' (first | (with_reducible exact Below.refl _ _) | (with_reducible refine Below.alloc ?_ ?_ _) | (with_reducible refine Below.setCell ?_ ?_ _) | (with_reducible refine Below.drew ?_) | (refine Below.trans ?_ (Below.mono (by with_reducible assumption) ?_)) | go_size)))).2.1 (HRD.out _ (by (repeat' (first | (with_reducible exact Below.refl _ _) | (with_reducible refine Below.alloc ?_ ?_ _) | (with_reducible refine Below.setCell ?_ ?_ _) | (with_reducible refine Below.drew ?_) | (refine Below.trans ?_ (Below.mono (by with_reducible assumption) ?_)) | go_size)))).2.2.1 hl hl1 hl2).mono ?_
    rintro e w1 ⟨rfl, hb1⟩
    rw [HRV.out]
    have HB1 : Hid (Below w.heap.size w w1) := by unfold Hid; (repeat' (first | (with_reducible exact Below.refl _ _) | (with_reducible refine Below.alloc ?_ ?_ _) | (with_reducible refine Below.setCell ?_ ?_ _) | (with_reducible refine Below.drew ?_) | (refine Below.trans ?_ (Below.mono (by with_reducible assumption) ?_)) | go_size))
    clear hb1
    go_wp2_with fail
    go_ret
    exact ⟨by rw [HNZ.out]; rfl, HB1.out⟩
end Go.Proofs.Ytdfgdeccejcpfaa
