/- The law FnRampNext: its walk. -/
import Derived.Test.YtcpopbkcphpdfaaDoorDrN
import Derived.Test.YtcpopbkcphpdfaaDoorLwR
import Derived.Test.YtcpopbkcphpdfaaDoorLwS
import Derived.Test.YtcpopbkcphpdfaaDoorAlive
namespace Go.Proofs.YtcpopbkcphpdfaaDoor
open Go.RowKit Go.Deep
set_option linter.unusedSimpArgs false
set_option linter.unusedVariables false

theorem sumZ_J : ∀ xs : List Int, sumZ xs = sumI xs
  | [] => rfl
  | x :: xs => by simp only [sumZ, sumI, sumZ_J xs]
theorem outs_getJ {xs : List R4} {ys : List Int} (h : OutsP xs ys) {i : Nat} (hi : i < ys.length) : 0 ≤ ys[i] ∧ ys[i] ≤ 999 := by
  have hx : i < xs.length := by rw [← h.2.1]; exact hi
  have h1 := h.2.2 i hx hi
  have h2 := h.1.2 xs[i] (List.getElem_mem hx); unfold UniOk at h2; omega

set_option maxRecDepth 100000 in
set_option maxHeartbeats 8000000 in
theorem fnRampNext_any (A : Option Addr) (n c : Nat) (bs : List Int) (w : World) (hn : bs.length = n) (hb : ∀ x ∈ bs, U8 x) (hc : n ≤ c) (hcm : c ≤ maxLen) (hR : Reads 1 byteC w w.heap.size A bs) :
    Calls Tryd.prog 12 #[.slice A n c] w fun e w' => e = .returned (.bool true) ∧ Below w.heap.size w w' := by
  unfold maxLen at hcm
  subst hn
  have HR := Lib.hid hR; clear hR
  have HB := Lib.hid hb; clear hb
  have HB_w : Hid (Below w.heap.size w w) := Below.refl _ _
  have hbb : ∀ x : Bool, (x != x) = false := fun x => by simp
  have hnn : ∀ x : Int, (x != x) = false := fun x => by simp
  by_cases hl : ¬ bs.length ≤ 1048576
  · have hl' : (1048576 : Int) < bs.length := by omega
    go_enter Tryd.func12, Tryd.ntmps12
    go_wp2_with fail
    go_ret
    exact ⟨rfl, Below.refl _ _⟩
  have hl : bs.length ≤ 1048576 := by omega
  have hl' : ¬ (1048576 : Int) < bs.length := by omega
  go_enter Tryd.func12, Tryd.ntmps12
  go_wp2_with fail; ((with_reducible refine (drawRampNext_any A c bs w HR.out HB.out hl hc hcm).mono ?_); rintro e w1 ⟨A1, A2, A3, c1, c2, c3, us, rs, ys, L, rfl, hu1, hu7, hus, hrl, hrs, hy7, hys, hL0, hL1, hd1, hd2, hd3, hb_w1⟩); have HB_w1 : Hid (Below w.heap.size w w1) := HB_w.out.trans (hb_w1.mono HB_w.out.size); clear hb_w1
  have HD_w1 := Lib.hid hd1; have HE_w1 := Lib.hid hd2; have HF_w1 := Lib.hid hd3; have HYS := Lib.hid hys; have HRS := Lib.hid hrs; have HRL := Lib.hid hrl; clear hd1 hd2 hd3 hus hrl hrs hys
  have hul : us.length ≤ 1048576 := by omega
  have hrl1 : rs.length ≤ 1048576 := by rw [HRL.out]; exact hul
  have hyl : ys.length ≤ 1048576 := by omega
  have hI : I64 L := by unfold I64; omega
  go_wp2_with fail; ((with_reducible refine (implRampNext_any A1 A2 A3 c1 c2 c3 us rs ys L hI w1 HD_w1.out.reads.1 HE_w1.out.reads.1 HF_w1.out.reads.1 hul hrl1 hyl).mono ?_); rintro e w2 ⟨v2, rfl, hr2, hb_w2⟩); have HB_w2 : Hid (Below w.heap.size w w2) := HB_w1.out.trans (hb_w2.mono HB_w1.out.size); have HD_w2 := Lib.hid (HD_w1.out.below hb_w2); have HE_w2 := Lib.hid (HE_w1.out.below hb_w2); have HF_w2 := Lib.hid (HF_w1.out.below hb_w2); clear hb_w2
  have HX_w2 := Lib.hid hr2
  obtain ⟨A4, c4, rfl, _⟩ := hr2
  go_wp2_with fail; ((with_reducible refine (specRampNext_any A1 A2 A3 c1 c2 c3 us rs ys L hI w2 HD_w2.out.reads.1 HE_w2.out.reads.1 HF_w2.out.reads.1 hul hrl1 hyl).mono ?_); rintro e w3 ⟨v3, rfl, hr3, hb_w3⟩); have HB_w3 : Hid (Below w.heap.size w w3) := HB_w2.out.trans (hb_w3.mono HB_w2.out.size); have HD_w3 := Lib.hid (HD_w2.out.below hb_w3); have HE_w3 := Lib.hid (HE_w2.out.below hb_w3); have HF_w3 := Lib.hid (HF_w2.out.below hb_w3); have HX_w3 := Lib.hid (HX_w2.out.below hb_w3); clear hb_w3
  have HZ_w3 := Lib.hid hr3
  obtain ⟨A5, c5, rfl, _⟩ := hr3
  have hzl := rampN_len us rs ys L
  generalize hzs : (rampN us rs ys L).getD [] = zs at HX_w3 HZ_w3 hzl ⊢
  generalize hok : (rampN us rs ys L).isSome = ok
  have HZS := Lib.hid (And.intro hzs hok); clear hzs hok
  have hzl' : zs.length ≤ 1048576 := by omega
  go_wp2_with fail; ((with_reducible refine (sameInts_any A4 A5 c4 c5 zs w3 HX_w3.out.reads.1 HZ_w3.out.reads.1 hzl').mono ?_); rintro e w4 ⟨rfl, hb_w4⟩); have HB_w4 : Hid (Below w.heap.size w w4) := HB_w3.out.trans (hb_w4.mono HB_w3.out.size); have HD_w4 := Lib.hid (HD_w3.out.below hb_w4); have HE_w4 := Lib.hid (HE_w3.out.below hb_w4); have HF_w4 := Lib.hid (HF_w3.out.below hb_w4); have HX_w4 := Lib.hid (HX_w3.out.below hb_w4); clear hb_w4
  cases hd : rampN us rs ys L with
  | none =>
    have hyy := HZS.out
    rw [hd] at hyy
    obtain ⟨hy1, hy2⟩ := hyy
    have hy1 : zs = [] := hy1.symm
    have hy2 : ok = false := hy2.symm
    subst hy1 hy2
    clear hd
    go_wp2_with fail; ((with_reducible refine (alive_any w4).mono ?_); rintro e w5 ⟨rfl, hb_w5⟩); have HB_w5 : Hid (Below w.heap.size w w5) := HB_w4.out.trans (hb_w5.mono HB_w4.out.size); clear hb_w5
    go_wp2_with fail
    go_ret
    exact ⟨rfl, HB_w5.out⟩
  | some qs =>
    have hyy := HZS.out
    rw [hd] at hyy
    obtain ⟨hy1, hy2⟩ := hyy
    have hy1 : qs = zs := hy1
    have hy2 : ok = true := hy2.symm
    subst hy1 hy2
    have HNX := Lib.hid (next_hour hu1 hd)
    clear hd
    have hql := HNX.out.2.1
    have HQL := Lib.hid hql
    have HYL := Lib.hid HNX.out.1.1.2.1
    clear hql
    go_wp2_with fail
    go_loopw [11] (fun k wr => ∃ (i : Nat), k = .int .i64 i ∧ i ≤ qs.length ∧ Hid (∃ m, wr = w4.drewN m)) (fun k _ => qs.length - (intOf k).toNat)
    case atStart => exact ⟨0, rfl, Nat.zero_le _, ⟨0, rfl⟩⟩
    case round =>
      obtain ⟨i, rfl, hi, HW⟩ := hrel
      obtain ⟨m, rfl⟩ := HW.out
      clear HW
      by_cases hlt : i < qs.length
      · have hiu : i < us.length := by rw [← HQL.out]; exact hlt
        have hir : i < rs.length := by rw [HRL.out]; exact hiu
        have hiy : i < ys.length := by rw [HYL.out]; exact hiu
        obtain ⟨b1, o1, rfl, _, k1⟩ := HX_w4.out.reads.1.at1 hlt
        obtain ⟨b2, o2, rfl, _, k2⟩ := HF_w4.out.reads.1.at1 hiy
        obtain ⟨b3, o3, rfl, _, k3⟩ := HE_w4.out.reads.1.at1 hir
        have k1' : w4.cell? ⟨b1, o1 + i, none⟩ = some (.int .i64 qs[i]) := k1
        have k2' : w4.cell? ⟨b2, o2 + i, none⟩ = some (.int .i64 ys[i]) := k2
        have k3' : w4.cell? ⟨b3, o3 + i, none⟩ = some (.int .i64 rs[i]) := k3
        have hdf := HNX.out.2.2.2.2.1 i hiu
        rw [gI_get hlt, gI_get hiy, gI_get hir] at hdf
        have h1 := outs_getJ HNX.out.2.2.1 hlt
        have h2 := outs_getJ HNX.out.1.1 hiy
        clear k1 k2 k3
        generalize qs[i] = q at k1' hdf h1
        generalize ys[i] = y at k2' hdf h2
        generalize rs[i] = r at k3' hdf
        obtain ⟨d1, d2⟩ := hdf
        obtain ⟨q0, q1⟩ := h1
        obtain ⟨y0, y1⟩ := h2
        have e1 : IntKind.i64.wrap (q - y) = q - y := IntWalk.i64_in _ (by omega)
        have e2 : IntKind.i64.wrap (y - q) = y - q := IntWalk.i64_in _ (by omega)
        have e3 : ¬ r < q - y := by omega
        have e4 : ¬ r < y - q := by omega
        have e5 : decide (r < q - y) = false := by simp; omega
        have e6 : decide (r < y - q) = false := by simp; omega
        have hi1 : (i : Int) < (qs.length : Int) := by omega
        have hi2 : (i : Int) < (ys.length : Int) := by omega
        have hi3 : (i : Int) < (rs.length : Int) := by omega
        have hi0 : (0 : Int) ≤ (i : Int) := by omega
        go_wp2_with fail
        go_quiet (fail)
        go_wp2_with fail
        exact ⟨⟨i + 1, by go_num, by omega, ⟨_, rfl⟩⟩, by simp [intOf]; omega⟩
      · have HB_wm : Hid (Below w.heap.size w (w4.drewN m)) := below_drewN' HB_w4.out m
        have HD_wm : Hid (DrS 4 r4C (w4.drewN m) w.heap.size (.slice A1 us.length c1) us) := HD_w4
        have HE_wm : Hid (DrS 1 intC (w4.drewN m) w.heap.size (.slice A2 rs.length c2) rs) := HE_w4
        have HX_wm : Hid (Res 1 intC 3 (w4.drewN m) w1.heap.size (.slice A4 qs.length c4) qs) := HX_w4
        generalize hwm : w4.drewN m = wm at HB_wm HD_wm HE_wm HX_wm ⊢
        clear hwm
        have HN2 : Hid (∀ W, Reads 4 r4C W W.heap.size A1 us → Reads 1 intC W W.heap.size A2 rs → Reads 1 intC W W.heap.size A4 qs → Calls Tryd.prog 40 #[.slice A1 us.length c1, .slice A2 rs.length c2, .slice A4 qs.length c4, .int .i64 L] W fun e w' => ∃ v, e = .returned (.tuple #[v, .bool true]) ∧ Below W.heap.size W w') := fun W r1 r2 r3 => by
          have := implRampNext_any A1 A2 A4 c1 c2 c4 us rs qs L hI W r1 r2 r3 hul hrl1 hzl'
          unfold RetD at this
          rw [HNX.out.2.2.2.2.2] at this
          refine this.mono ?_
          rintro e w' ⟨v, rfl, _, hb'⟩
          exact ⟨v, rfl, hb'⟩
        have HSU : Hid (∀ W, Reads 1 intC W W.heap.size A4 qs → Calls Tryd.prog 36 #[.slice A4 qs.length c4] W fun e w' => e = .returned (.int .i64 L) ∧ Below W.heap.size W w') := fun W h => by
          have := sumOf_any A4 c4 qs W h (by omega) (fun y hy => by
            obtain ⟨i, hi, rfl⟩ := List.mem_iff_getElem.1 hy
            have := outs_getJ HNX.out.2.2.1 hi; omega)
          rw [sumZ_J, HNX.out.2.2.2.1] at this; exact this
        have HOV : Hid (∀ W, Reads 4 r4C W W.heap.size A1 us → Reads 1 intC W W.heap.size A4 qs → Calls Tryd.prog 20 #[.slice A1 us.length c1, .slice A4 qs.length c4] W fun e w' => e = .returned (.bool true) ∧ Below W.heap.size W w') := fun W r1 r2 => by
          have := implOutputsValid_any A1 A4 c1 c4 us qs W r1 r2 hul hzl'
          rw [outsB_t.2 HNX.out.2.2.1] at this; exact this
        go_wp2_with fail; ((with_reducible refine (HN2.out wm HD_wm.out.reads.1 HE_wm.out.reads.1 HX_wm.out.reads.1).mono ?_); rintro e w5 ⟨v5, rfl, hb_w5⟩); have HB_w5 : Hid (Below w.heap.size w w5) := HB_wm.out.trans (hb_w5.mono HB_wm.out.size); have HD_w5 := Lib.hid (HD_wm.out.below hb_w5); have HX_w5 := Lib.hid (HX_wm.out.below hb_w5); clear hb_w5
        go_wp2_with fail; ((with_reducible refine (HOV.out w5 HD_w5.out.reads.1 HX_w5.out.reads.1).mono ?_); rintro e w6 ⟨rfl, hb_w6⟩); have HB_w6 : Hid (Below w.heap.size w w6) := HB_w5.out.trans (hb_w6.mono HB_w5.out.size); have HX_w6 := Lib.hid (HX_w5.out.below hb_w6); clear hb_w6
        go_wp2_with fail; ((with_reducible refine (HSU.out w6 HX_w6.out.reads.1).mono ?_); rintro e w7 ⟨rfl, hb_w7⟩); have HB_w7 : Hid (Below w.heap.size w w7) := HB_w6.out.trans (hb_w7.mono HB_w6.out.size); clear hb_w7
        have hLL : (L == L) = true := by simp
        go_wp2_with fail
        go_ret
        exact ⟨rfl, HB_w7.out⟩
end Go.Proofs.YtcpopbkcphpdfaaDoor
