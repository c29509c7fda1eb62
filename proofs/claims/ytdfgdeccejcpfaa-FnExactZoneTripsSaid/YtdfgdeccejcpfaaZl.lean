/- impl.ZoneLoad. -/
import Derived.Test.YtdfgdeccejcpfaaTrO
import Derived.Test.YtdfgdeccejcpfaaZoC
import Derived.Test.YtdfgdeccejcpfaaHas
namespace Go.Proofs.Ytdfgdeccejcpfaa
open Go.RowKit Go.Deep
set_option linter.unusedSimpArgs false
set_option linter.unusedVariables false

theorem zl_ends {B : Int} {ls : List R3} {on : List Bool} {bs : List R2} {zs : List Int} (hr : RadP B ls on bs) (hz : ZoneP B zs) (g : Nat → Int) (hg : ∀ x, x < bs.length → g x = loadAt bs x * f01 (aliveP ls on bs x)) :
    zrun g zs zs.length = zlV B ls on bs zs := by
  have hB := hr.1.2.1
  have hz' : ZoneP (bs.length : Nat) zs := by rw [hB]; exact hz
  rw [zlV_t ⟨hr, hz⟩, zrun_all hz']
  unfold zsum
  refine sumN_congr fun x hx => ?_
  rw [hg x hx, Int.mul_assoc]
  congr 1
  rcases f01_cases (aliveP ls on bs x) with ⟨a, ea⟩ | ⟨a, ea⟩ <;> rcases f01_cases ((x : Int) ∈ zs) with ⟨b, eb⟩ | ⟨b, eb⟩ <;> rw [ea, eb]
  · rw [f01_t ⟨b, a⟩]; rfl
  · rw [f01_f (fun h => b h.1)]; rfl
  · rw [f01_f (fun h => a h.2)]; rfl
  · rw [f01_f (fun h => a h.2)]; rfl
set_option maxRecDepth 100000 in
set_option maxHeartbeats 8000000 in
theorem implZoneLoad_any (B : Int) (A A1 A2 A3 : Option Addr) (c c1 c2 c3 : Nat) (ls : List R3) (on : List Bool) (bs : List R2) (zs : List Int) (w : World) (hR : Reads 3 r3C w w.heap.size A ls) (hR1 : Reads 1 boolC w w.heap.size A1 on) (hR2 : Reads 2 r2C w w.heap.size A2 bs) (hR3 : Reads 1 intC w w.heap.size A3 zs) (hl : ls.length ≤ 1048576) (hl1 : on.length ≤ 1048576) (hl2 : bs.length ≤ 1048576) (hl3 : zs.length ≤ 1048576) :
    Calls Try.prog 19 #[.agg #[.int .i64 B, .slice A ls.length c], .slice A1 on.length c1, .slice A2 bs.length c2, .slice A3 zs.length c3] w fun e w' => e = .returned (.int .i64 (zlV B ls on bs zs)) ∧ Below w.heap.size w w' := by
  have HR := Lib.hid hR; have HR1 := Lib.hid hR1; have HR2 := Lib.hid hR2; have HR3 := Lib.hid hR3
  clear hR hR1 hR2 hR3
  have HRX : ∀ W, Below w.heap.size w W → Reads 3 r3C W W.heap.size A ls ∧ Reads 1 boolC W W.heap.size A1 on ∧ Reads 2 r2C W W.heap.size A2 bs ∧ Reads 1 intC W W.heap.size A3 zs := fun W h => ⟨(HR.out.below h (Nat.le_refl _)).more h.size, (HR1.out.below h (Nat.le_refl _)).more h.size, (HR2.out.below h (Nat.le_refl _)).more h.size, (HR3.out.below h (Nat.le_refl _)).more h.size⟩
  have HRD := Lib.hid HRX; clear HRX
  go_enter Try.func19, Try.ntmps19
  go_wp2_with fail
  refine (treeOf_any B A A1 A2 c c1 c2 ls on bs _ (HRD.out _ (by (repeat' (first | (with_reducible exact Below.refl _ _) | (with_reducible refine Below.alloc ?_ ?_ _) | (with_reducible refine Below.setCell ?_ ?_ _) | (with_reducible refine Below.drew ?_) | (refine Below.trans ?_ (Below.mono (by with_reducible assumption) ?_)) | go_size)))).1 (HRD.out _ (by (repeat' (first | (with_reducible exact Below.refl _ _) | (with_reducible refine Below.alloc ?_ ?_ _) | (with_reducible refine Below.setCell ?_ ?_ _) | (with_reducible refine Below.drew ?_) | (refine Below.trans ?_ (Below.mono (by with_reducible assumption) ?_)) | go_size)))).2.1 (HRD.out _ (by (repeat' (first | (with_reducible exact Below.refl _ _) | (with_reducible refine Below.alloc ?_ ?_ _) | (with_reducible refine Below.setCell ?_ ?_ _) | (with_reducible refine Below.drew ?_) | (refine Below.trans ?_ (Below.mono (by with_reducible assumption) ?_)) | go_size)))).2.2.1 hl hl1 hl2).mono ?_
  rintro e w1 ⟨hb1, ⟨hrad, v, F, P, O, rfl, htr⟩ | ⟨hnr, rfl⟩⟩
  · have HG1 : Hid (Bk w1 w.heap.size 30 #[.int .i64 B, .slice A ls.length c]) := (Bk.new _ _ _).keep hb1
    have HB1 : Hid (Below w.heap.size w w1) := by unfold Hid; (repeat' (first | (with_reducible exact Below.refl _ _) | (with_reducible refine Below.alloc ?_ ?_ _) | (with_reducible refine Below.setCell ?_ ?_ _) | (with_reducible refine Below.drew ?_) | (refine Below.trans ?_ (Below.mono (by with_reducible assumption) ?_)) | go_size))
    clear hb1
    have HRA := Lib.hid hrad
    have HTS := Lib.hid htr.tree
    obtain ⟨gF, gP, oA, oc, rfl, hrF, hrP, hrO⟩ := htr.val
    have HRF := Lib.hid hrF
    clear hrad htr hrF hrP hrO
    have HK9 : Hid (Bk (w1.alloc (.cells #[.int .i64 B, .slice A ls.length c, .slice (some ⟨gF, 0, none⟩) bs.length bs.length, .slice (some ⟨gP, 0, none⟩) bs.length bs.length, .slice oA O.length oc] 72)) w1.heap.size 72 #[.int .i64 B, .slice A ls.length c, .slice (some ⟨gF, 0, none⟩) bs.length bs.length, .slice (some ⟨gP, 0, none⟩) bs.length bs.length, .slice oA O.length oc]) := Bk.new _ _ _
    have HBX : Hid (Below w.heap.size w (w1.alloc (.cells #[.int .i64 B, .slice A ls.length c, .slice (some ⟨gF, 0, none⟩) bs.length bs.length, .slice (some ⟨gP, 0, none⟩) bs.length bs.length, .slice oA O.length oc] 72))) := HB1.out.alloc HB1.out.size _
    have HRFX := Lib.hid (HRF.out.alloc (.cells #[.int .i64 B, .slice A ls.length c, .slice (some ⟨gF, 0, none⟩) bs.length bs.length, .slice (some ⟨gP, 0, none⟩) bs.length bs.length, .slice oA O.length oc] 72))
    have cG := HG1.out.cell; have zG := HG1.out.lt
    go_wp2_with fail
    refine (implZoneValid_any B A A3 c c3 ls zs _ (HRD.out _ HBX.out).1 (HRD.out _ HBX.out).2.2.2 hl hl3).mono ?_
    rintro e w2 ⟨rfl, hb2⟩
    have hnv : netV B ls = true := netV_t.2 HRA.out.1.1.1
    rw [hnv, Bool.true_and]
    clear hnv
    have HK2 := Lib.hid (HK9.out.keep hb2)
    have HB2 : Hid (Below w.heap.size w w2) := HBX.out.trans (hb2.mono HBX.out.size)
    have HRF2 := Lib.hid (HRFX.out.keep hb2)
    clear hb2 HK9 HRFX HRF
    by_cases hz : ZoneP B zs
    · rw [zoneV_t.2 hz]
      have HZ := Lib.hid hz
      have hzs8 : zs.length ≤ 8 := by
        have h1 := hz.short (by have := HRA.out.1.1.1.1; omega)
        have h2 := HRA.out.1.1.1.2.1
        omega
      clear hz
      have HEND := Lib.hid (zl_ends HRA.out HZ.out (fun x => if 0 ≤ F.getD x (-1) then loadAt bs x else 0) (fun x hx => by
        have hf := (HTS.out.tree HRA.out.1.ends).1.fed x
        by_cases h : 0 ≤ F.getD x (-1)
        · simp only [if_pos h]; rw [f01_t (hf.1 h), Int.mul_one]
        · simp only [if_neg h]; rw [f01_f (fun q => h (hf.2 q)), Int.mul_zero]))
      have HBD : Hid (∀ x, 0 ≤ (fun x => if 0 ≤ F.getD x (-1) then loadAt bs x else 0) x ∧ (fun x => if 0 ≤ F.getD x (-1) then loadAt bs x else 0) x ≤ 999) := fun x => by
        have := HRA.out.1.load x
        simp only
        split <;> omega
      generalize hgg : (fun x => if 0 ≤ F.getD x (-1) then loadAt bs x else 0) = g at HEND HBD
      have HGG := Lib.hid hgg; clear hgg
      have hFl : F.length = bs.length := HTS.out.lenF
      have HFL := Lib.hid hFl
      clear hFl
      go_wp2_with fail
      go_loopw [11, 31] (fun t11 t wr => ∃ (i : Nat) (T : Int), t = .int .i64 i ∧ t11 = .int .i64 T ∧ i ≤ zs.length ∧ Hid (T = zrun g zs i) ∧ w2 = wr) (fun _ t _ => zs.length - (intOf t).toNat)
      case atStart => exact ⟨0, 0, rfl, rfl, Nat.zero_le _, rfl, rfl⟩
      case round =>
        obtain ⟨i, T, rfl, rfl, hi, HTT, rfl⟩ := hrel
        by_cases hlt : i < zs.length
        · obtain ⟨zb, zo, rfl, hzb, hzc⟩ := (HRD.out _ HB2.out).2.2.2.at1 hlt
          unfold intC at hzc
          have hzz := HZ.out i hlt
          rw [getD_lt hlt] at hzz
          obtain ⟨x, hx⟩ : ∃ x : Nat, zs[i] = (x : Int) := ⟨zs[i].toNat, by omega⟩
          have hstep : zrun g zs (i + 1) = zrun g zs i + g x := by show zrun g zs i + g (zs.getD i 0).toNat = _; rw [getD_lt hlt, hx, Int.toNat_natCast]
          rw [hx] at hzc hzz
          have HX := Lib.hid hx; clear hx
          have hxb : x < bs.length := by have := HRA.out.1.2.1; omega
          obtain ⟨lb, lo, rfl, hlb, hc0, hc1⟩ := (HRD.out _ HB2.out).2.2.1.at2 hxb
          have hla : loadAt bs x = bs[x].b := by unfold loadAt; rw [getD_lt hxb]
          generalize bs[x].a = za at hc0
          generalize hzl : bs[x].b = zl at hc1 hla
          have hxF : x < F.length := by rw [HFL.out]; exact hxb
          have cF := HRF2.out.cell hxF
          unfold iV at cF
          have hgx := congrFun HGG.out x
          try simp only at hgx
          rw [hla] at hgx
          obtain ⟨y, hy⟩ : ∃ y, F.getD x (-1) = y := ⟨_, rfl⟩
          rw [hy] at cF hgx
          have hbd := HBD.out x
          have hTb := zrun_bd (zs := zs) HBD.out i
          rw [← HTT.out] at hTb hstep
          have HS := Lib.hid hstep; have HGX := Lib.hid hgx
          have hlb2 := HRA.out.1.load x
          rw [hla] at hlb2
          have cG9 := HK2.out.cell
          have hx1 : (x : Int) < (bs.length : Int) := by omega
          have hi1 : (i : Int) < (zs.length : Int) := by omega
          clear hy hla hstep hgx hzl hzz hbd
          by_cases hy0 : 0 ≤ y
          · have HN : Hid (T + zl = zrun g zs (i + 1)) := by have := HGX.out; rw [if_pos hy0] at this; unfold Hid; rw [HS.out, this]
            have hw : IntKind.i64.wrap (T + zl) = T + zl := IntWalk.i64_in _ (by omega)
            go_wp2_with fail
            exact ⟨⟨i + 1, T + zl, by go_num, rfl, by omega, HN, by first | rfl | trivial⟩, by simp [intOf]; omega⟩
          · have HN : Hid (T = zrun g zs (i + 1)) := by have := HGX.out; rw [if_neg hy0] at this; unfold Hid; rw [HS.out, ← this]; omega
            go_wp2_with fail
            exact ⟨⟨i + 1, T, by go_num, rfl, by omega, HN, by first | rfl | trivial⟩, by simp [intOf]; omega⟩
        · obtain rfl : i = zs.length := by omega
          rw [HEND.out] at HTT
          go_wp2_with fail
          go_ret
          exact ⟨by rw [← HTT.out]; rfl, HB2.out⟩
    · rw [zoneV_f.2 hz]
      have HNZ : Hid (zlV B ls on bs zs = -1) := zlV_f (fun h => hz h.2)
      clear hz
      go_wp2_with fail
      go_ret
      exact ⟨by rw [HNZ.out]; rfl, HB2.out⟩
  · have HNZ : Hid (zlV B ls on bs zs = -1) := zlV_f (fun h => hnr h.1)
    have HB1 : Hid (Below w.heap.size w w1) := by unfold Hid; (repeat' (first | (with_reducible exact Below.refl _ _) | (with_reducible refine Below.alloc ?_ ?_ _) | (with_reducible refine Below.setCell ?_ ?_ _) | (with_reducible refine Below.drew ?_) | (refine Below.trans ?_ (Below.mono (by with_reducible assumption) ?_)) | go_size))
    clear hnr hb1
    go_wp2_with fail
    go_ret
    exact ⟨by rw [HNZ.out]; rfl, HB1.out.alloc HB1.out.size _⟩
end Go.Proofs.Ytdfgdeccejcpfaa
