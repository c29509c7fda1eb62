/- spec.ZoneFlow. -/
import Derived.Test.YtdfgdeccejcpfaaSpK
import Derived.Test.YtdfgdeccejcpfaaSpE
namespace Go.Proofs.Ytdfgdeccejcpfaa
open Go.RowKit Go.Deep
set_option linter.unusedSimpArgs false
set_option linter.unusedVariables false

theorem sumF_bd {f : Nat → Int} {P : Nat → Prop} (h : ∀ x, 0 ≤ f x ∧ f x ≤ 999) : ∀ k, 0 ≤ sumN (fun j => f j * f01 (P j)) k ∧ sumN (fun j => f j * f01 (P j)) k ≤ 999 * k
  | 0 => by simp [sumN]
  | k + 1 => by
    have ih := sumF_bd (P := P) h k
    have := h k
    show 0 ≤ sumN (fun j => f j * f01 (P j)) k + f k * f01 (P k) ∧ sumN (fun j => f j * f01 (P j)) k + f k * f01 (P k) ≤ _
    rcases f01_cases (P k) with ⟨_, e⟩ | ⟨_, e⟩ <;> rw [e] <;> omega
theorem zpart_bd {ls : List R3} {on : List Bool} {bs : List R2} {p : List Int} {z : Nat → Prop} {k : Nat} (hg : 0 ≤ islL ls on bs k ∧ islL ls on bs k ≤ 7992) (hfl : ∀ l, 0 ≤ flowS ls bs p l ∧ flowS ls bs p l ≤ 66000000) : -70000000 ≤ zpart ls on bs p z k ∧ zpart ls on bs p z k ≤ 70000000 := by
  unfold zpart
  have := hfl (p.getD k (-2)).toNat
  rcases f01_cases (z k ∧ 0 < feedAt bs k) with ⟨_, e0⟩ | ⟨_, e0⟩ <;> rcases f01_cases (z k) with ⟨_, e1⟩ | ⟨_, e1⟩ <;> rcases f01_cases (z (oth ls (p.getD k (-2)).toNat k)) with ⟨_, e2⟩ | ⟨_, e2⟩ <;> rw [e0, e1, e2] <;> split <;> omega
theorem sumN_absZ {f : Nat → Int} {n : Nat} (h : ∀ k, k < n → -70000000 ≤ f k ∧ f k ≤ 70000000) : ∀ k, k ≤ n → -70000000 * (k : Int) ≤ sumN f k ∧ sumN f k ≤ 70000000 * (k : Int)
  | 0, _ => by simp [sumN]
  | k + 1, hk => by
    have := sumN_absZ h k (by omega)
    have := h k (by omega)
    show -70000000 * ((k + 1 : Nat) : Int) ≤ sumN f k + f k ∧ sumN f k + f k ≤ 70000000 * ((k + 1 : Nat) : Int)
    omega
set_option maxRecDepth 100000 in
set_option maxHeartbeats 16000000 in
theorem specZoneFlow_any (B : Int) (A A1 A2 A3 : Option Addr) (c c1 c2 c3 : Nat) (ls : List R3) (on : List Bool) (bs : List R2) (zs : List Int) (w : World) (hR : Reads 3 r3C w w.heap.size A ls) (hR1 : Reads 1 boolC w w.heap.size A1 on) (hR2 : Reads 2 r2C w w.heap.size A2 bs) (hR3 : Reads 1 intC w w.heap.size A3 zs) (hl : ls.length ≤ 1048576) (hl1 : on.length ≤ 1048576) (hl2 : bs.length ≤ 1048576) (hl3 : zs.length ≤ 1048576) :
    Calls Try.prog 22 #[.agg #[.int .i64 B, .slice A ls.length c], .slice A1 on.length c1, .slice A2 bs.length c2, .slice A3 zs.length c3] w fun e w' => e = .returned (.int .i64 (zlV B ls on bs zs)) ∧ Below w.heap.size w w' := by
  have HRX : ∀ W, Below w.heap.size w W → Reads 3 r3C W W.heap.size A ls ∧ Reads 1 boolC W W.heap.size A1 on ∧ Reads 2 r2C W W.heap.size A2 bs ∧ Reads 1 intC W W.heap.size A3 zs := fun W h => ⟨(hR.below h (Nat.le_refl _)).more h.size, (hR1.below h (Nat.le_refl _)).more h.size, (hR2.below h (Nat.le_refl _)).more h.size, (hR3.below h (Nat.le_refl _)).more h.size⟩
  have HRD := Lib.hid HRX; clear HRX hR hR1 hR2 hR3
  have HL3 := Lib.hid hl3
  by_cases hrad : RadP B ls on bs
  · have hrv := pB_true hrad
    have HRV := Lib.hid hrv
    have HRA := Lib.hid hrad
    clear hrv hrad
    go_enter Try.func22, Try.ntmps22
    go_wp2_with fail
    refine (specRadial_any B A A1 A2 c c1 c2 ls on bs _ (HRD.out _ (by (repeat' (first | (with_reducible exact Below.refl _ _) | (with_reducible refine Below.alloc ?_ ?_ _) | (with_reducible refine Below.setCell ?_ ?_ _) | (with_reducible refine Below.drew ?_) | (refine Below.trans ?_ (Below.mono (by with_reducible assumption) ?_)) | go_size)))).1 (HRD.out _ (by (repeat' (first | (with_reducible exact Below.refl _ _) | (with_reducible refine Below.alloc ?_ ?_ _) | (with_reducible refine Below.setCell ?_ ?_ _) | (with_reducible refine Below.drew ?_) | (refine Below.trans ?_ (Below.mono (by with_reducible assumption) ?_)) | go_size)))).2.1 (HRD.out _ (by (repeat' (first | (with_reducible exact Below.refl _ _) | (with_reducible refine Below.alloc ?_ ?_ _) | (with_reducible refine Below.setCell ?_ ?_ _) | (with_reducible refine Below.drew ?_) | (refine Below.trans ?_ (Below.mono (by with_reducible assumption) ?_)) | go_size)))).2.2.1 hl hl1 hl2).mono ?_
    rintro e w1 ⟨rfl, hb1⟩
    rw [HRV.out]
    have HG1 : Hid (Bk w1 w.heap.size 30 #[.int .i64 B, .slice A ls.length c]) := (Bk.new _ _ _).keep hb1
    have HB1 : Hid (Below w.heap.size w w1) := by unfold Hid; (repeat' (first | (with_reducible exact Below.refl _ _) | (with_reducible refine Below.alloc ?_ ?_ _) | (with_reducible refine Below.setCell ?_ ?_ _) | (with_reducible refine Below.drew ?_) | (refine Below.trans ?_ (Below.mono (by with_reducible assumption) ?_)) | go_size))
    clear hb1
    have cG := HG1.out.cell; have zG := HG1.out.lt
    go_wp2_with fail
    refine (specZoneValid_any B A A3 c c3 ls zs _ (HRD.out _ HB1.out).1 (HRD.out _ HB1.out).2.2.2 hl hl3).mono ?_
    rintro e w2 ⟨rfl, hb2⟩
    have hnv : netV B ls = true := netV_t.2 HRA.out.1.1.1
    rw [hnv, Bool.true_and]
    clear hnv cG zG
    have HG2 := Lib.hid (HG1.out.keep hb2)
    have HB2 : Hid (Below w.heap.size w w2) := HB1.out.trans (hb2.mono HB1.out.size)
    clear hb2
    by_cases hz : ZoneP B zs
    · rw [zoneV_t.2 hz]
      have HZV := Lib.hid (zlV_t (zs := zs) ⟨HRA.out, hz⟩)
      clear hz
      obtain ⟨n, hn⟩ : ∃ n : Nat, B = n := ⟨B.toNat, by have := HRA.out.1.1.1.1; omega⟩
      subst hn
      have hlens := HRA.out.1.lens
      obtain ⟨hb8, hb1, hm10, hle, hBn⟩ := hlens
      have hnb : bs.length = n := by omega
      have HNB := Lib.hid hnb
      have HLE := Lib.hid hle
      have hm10' : on.length ≤ 10 := by omega
      clear hle hBn hnb hm10
      have cK := HG2.out.cell; have zK := HG2.out.lt
      go_wp2_with fail
      refine (l6Parents_any n A A1 A2 c c1 c2 ls on bs w2 HRA.out.1 (HRD.out _ HB2.out).1 (HRD.out _ HB2.out).2.1 (HRD.out _ HB2.out).2.2.1).mono ?_
      rintro e w3 ⟨pv, rfl, hpr, hb3⟩
      have HB3 : Hid (Below w.heap.size w w3) := HB2.out.trans (hb3.mono HB2.out.size)
      have HG3 := Lib.hid (HG2.out.keep hb3)
      clear hb3 cK zK
      obtain ⟨rk, hL⟩ := pars_leads (ls := ls) (on := on) (bs := bs) HRA.out.1.ends
      have hpl : (pars ls on bs).length = bs.length := pars_len
      have hal := pars_alive (bs := bs) HRA.out.1.ends HLE.out
      have HFC : Hid (∀ W, Below w.heap.size w W → Calls Try.prog 51 #[.agg #[.int .i64 (n : Int), .slice A ls.length c], .slice A1 on.length c1, .slice A2 bs.length c2] W (RetS 1 intC 3 W (flowL ls bs (pars ls on bs) on.length))) := fun W h => l7Flows_any n A A1 A2 c c1 c2 ls on bs W HRA.out.1 (HRD.out _ h).1 (HRD.out _ h).2.1 (HRD.out _ h).2.2.1
      generalize pars ls on bs = p at hpr hL hpl hal HFC
      have hsum := hL.flow HRA.out.1.ends hpl HRA.out.2.2 hal (fun x => (x : Int) ∈ zs)
      have HSUM := Lib.hid hsum
      have HPN := Lib.hid hpl
      have HPR := Lib.hid hpr
      have HLD := Lib.hid hL
      obtain ⟨pA, pc, rfl, -⟩ := hpr
      rw [hpl] at HPR
      rw [hpl]
      have hwm := fun b => (way_mem hL (by rw [hpl]; exact hb8) b).2
      have HFB : Hid (∀ l, 0 ≤ flowS ls bs p l ∧ flowS ls bs p l ≤ 66000000) := fun l => by
        have := flowP_bd HRA.out.1.load hwm l bs.length
        have e : flowS ls bs p l = flowP ls bs p bs.length l := rfl
        rw [e]; omega
      have HGB : Hid (∀ i, 0 ≤ islL ls on bs i ∧ islL ls on bs i ≤ 7992) := fun i => by
        have := sumF_bd (P := fun j => Cn ls on i j) HRA.out.1.load bs.length
        unfold islL; omega
      clear hL hpl hal hsum hwm
      have cK := HG3.out.cell; have zK := HG3.out.lt
      go_wp2_with fail
      refine (HFC.out w3 HB3.out).mono ?_
      rintro e w4 ⟨fv, rfl, hfr, hb4⟩
      have hfll : (flowL ls bs p on.length).length = on.length := by simp [flowL]
      have HFLL := Lib.hid hfll
      have HFL := Lib.hid hfr
      obtain ⟨fA, fc, rfl, -⟩ := hfr
      rw [hfll] at HFL
      rw [hfll]
      have HB4 : Hid (Below w.heap.size w w4) := HB3.out.trans (hb4.mono HB3.out.size)
      have HG4 := Lib.hid (HG3.out.keep hb4)
      have HPR4 : Hid (Reads 1 intC w4 w4.heap.size pA p) := ((HPR.out.reads.1).below hb4 (Nat.le_refl _)).more hb4.size
      clear hb4 hfll cK zK
      have HALL : Hid (∀ W, Below w4.heap.size w4 W → Bk W w.heap.size 30 #[.int .i64 (n : Int), .slice A ls.length c] ∧ Reads 1 intC W W.heap.size pA p ∧ Reads 1 intC W W.heap.size fA (flowL ls bs p on.length) ∧ Below w.heap.size w W) := fun W h =>
        ⟨HG4.out.keep h, ((HPR4.out).below h (Nat.le_refl _)).more h.size, ((HFL.out.reads.1).below h (Nat.le_refl _)).more h.size, HB4.out.trans (h.mono HB4.out.size)⟩
      have HILC : Hid (∀ W k, Below w.heap.size w W → k < n → Calls Try.prog 52 #[.agg #[.int .i64 (n : Int), .slice A ls.length c], .slice A1 on.length c1, .slice A2 bs.length c2, .int .i64 ((k : Nat) : Int)] W fun e w' => e = .returned (.int .i64 (islL ls on bs k)) ∧ Below W.heap.size W w') := fun W k h hk => by
        have q := islandLoad_any n A A1 A2 c c1 c2 ls on bs k W HRA.out.1 hk (HRD.out _ h).1 (HRD.out _ h).2.1 (HRD.out _ h).2.2.1
        have e : islL ls on bs k = sumN (fun j => loadAt bs j * f01 (Cn ls on k j)) n := by unfold islL; rw [HNB.out]
        rw [e]; with_reducible exact q
      have HAB := Lib.hid (sumN_absZ (f := zpart ls on bs p (fun x => (x : Int) ∈ zs)) (n := bs.length) (fun k hk => zpart_bd (HGB.out k) HFB.out))
      have HST : Hid (∀ i, sumN (zpart ls on bs p (fun x => (x : Int) ∈ zs)) (i + 1) = sumN (zpart ls on bs p (fun x => (x : Int) ∈ zs)) i + (f01 ((i : Int) ∈ zs ∧ 0 < feedAt bs i) * islL ls on bs i + (if 0 ≤ p.getD i (-2) then (f01 ((i : Int) ∈ zs) - f01 (((oth ls (p.getD i (-2)).toNat i : Nat) : Int) ∈ zs)) * flowS ls bs p (p.getD i (-2)).toNat else 0))) := fun i => rfl
      generalize hSS : sumN (zpart ls on bs p (fun x => (x : Int) ∈ zs)) = SS at HSUM HAB HST
      have HS0 : Hid (SS 0 = 0) := by unfold Hid; rw [← hSS]; rfl
      clear hSS
      go_wp2_with fail
      go_loopw [9, 12] (fun t9 t wr => ∃ (i : Nat) (T : Int), t = .int .i64 i ∧ t9 = .int .i64 T ∧ i ≤ bs.length ∧ Hid (T = SS i) ∧ Hid (Below w4.heap.size w4 wr)) (fun _ t _ => bs.length - (intOf t).toNat)
      case atStart => exact ⟨0, 0, rfl, rfl, Nat.zero_le _, HS0.out.symm, Below.refl _ _⟩
      case round =>
        obtain ⟨i, T, rfl, rfl, hi, HTT, HB⟩ := hrel
        have hkk := HALL.out wr HB.out
        have cKK := hkk.1.cell; have zKK := hkk.1.lt
        clear hkk
        by_cases hlt : i < bs.length
        · have hall0 := HALL.out wr HB.out
          have hst := HST.out i
          have hab := HAB.out i (by omega)
          rw [← HTT.out] at hst hab
          have cK := hall0.1.cell; have zK := hall0.1.lt
          have hi1 : (i : Int) < (n : Int) := by have := HNB.out; omega
          have hin' : i < n := by rw [← HNB.out]; exact hlt
          have HA0 := Lib.hid hall0
          clear hall0
          obtain ⟨lb, lo, hA2, hlb, hc0, -⟩ := (HRD.out _ HA0.out.2.2.2).2.2.1.at2 hlt
          have hfa : feedAt bs i = bs[i].a := by unfold feedAt; rw [getD_lt hlt]
          generalize bs[i].a = fd at hc0 hfa
          have HFA := Lib.hid hfa
          clear hfa
          go_wp2_with fail
          refine (l1Has_any A3 zs.length c3 zs i wr rfl (HRD.out _ HA0.out.2.2.2).2.2.2 HL3.out).mono ?_
          rintro e wq ⟨rfl, rfl⟩
          by_cases hin : (i : Int) ∈ zs
          · rw [decide_eq_true hin]
            have HIN := Lib.hid hin
            clear hin
            by_cases hfd : (0 : Int) < fd
            · obtain ⟨gv, hgv⟩ : ∃ g, islL ls on bs i = g := ⟨_, rfl⟩
              have hgb := HGB.out i
              rw [hgv] at hst hgb
              have HGV := Lib.hid hgv
              clear hgv
              have HISL := HILC.out wr i HA0.out.2.2.2 hin'
              rw [HGV.out] at HISL
              have HISX := Lib.hid HISL
              clear HISL
              subst hA2
              go_wp2_with fail
              refine (HISX.out).mono ?_
              rintro e W4 ⟨rfl, hb4⟩
              have HB4 : Hid (Below w4.heap.size w4 W4) := HB.out.trans (hb4.mono HB.out.size)
              have hw1 : IntKind.i64.wrap (T + gv) = T + gv := IntWalk.i64_in _ (by omega)
              obtain ⟨T1, hT1⟩ : ∃ T1, T + gv = T1 := ⟨_, rfl⟩
              have HT1 : Hid (SS (i + 1) = T1 + (if 0 ≤ p.getD i (-2) then (f01 ((i : Int) ∈ zs) - f01 (((oth ls (p.getD i (-2)).toNat i : Nat) : Int) ∈ zs)) * flowS ls bs p (p.getD i (-2)).toNat else 0)) := by
                unfold Hid; rw [hst, ← hT1, f01_t ⟨HIN.out, by rw [HFA.out]; exact hfd⟩]; omega
              have hTb : -700000000 ≤ T1 ∧ T1 ≤ 700000000 := by omega
              rw [hT1] at hw1
              clear hst hb4 cK zK
              have HTE := Lib.hid hT1
              have hall := HALL.out W4 HB4.out
              obtain ⟨pb, po, hpA, hpbz, hpc⟩ := hall.2.1.at1 (i := i) (by rw [HPN.out]; exact hlt)
              subst hpA
              have hpc2 : W4.cell? ⟨pb, po + i, none⟩ = some (.int .i64 (p.getD i (-2))) := by rw [hpc, getD_lt (by rw [HPN.out]; exact hlt)]; rfl
              have HA4 := Lib.hid hall; clear hall hpc
              obtain ⟨x, hx⟩ : ∃ x, p.getD i (-2) = x := ⟨_, rfl⟩
              rw [hx] at hpc2 HT1
              have HXP := Lib.hid hx
              clear hx
              by_cases hp0 : 0 ≤ x
              · obtain ⟨q1, q2, q3, q4⟩ := HLD.out.line i (by rw [HXP.out]; exact hp0)
                rw [HXP.out] at q1 q2
                obtain ⟨l, hl⟩ : ∃ l : Nat, x = (l : Int) := ⟨x.toNat, by omega⟩
                subst hl
                rw [Int.toNat_natCast] at q1 q2
                obtain ⟨hll, hlA, hlB, hlne⟩ := HRA.out.1.ends l q1
                have hlm : l < on.length := isOn_lt q1
                have hfb := HFB.out l
                obtain ⟨f, hf⟩ : ∃ f, flowS ls bs p l = f := ⟨_, rfl⟩
                rw [hf] at hfb
                have HFV := Lib.hid hf
                have hOE := fun W (h : Below w.heap.size w W) => specOtherEnd_any n A c ls l i W HRA.out.1.1.1 hll q2 (HRD.out _ h).1
                obtain ⟨a, ha⟩ : ∃ a, oth ls l i = a := ⟨_, rfl⟩
                rw [ha] at hOE
                have HOA := Lib.hid ha
                have HOE := Lib.hid hOE
                clear hf ha q1 q2 q3 q4 hlA hlB hlne hOE
                have hs0 : W4.cell? ⟨w.heap.size, 0, none⟩ = some (.int .i64 (n : Int)) := HA4.out.1.cell 0
                have hs1 : W4.cell? ⟨w.heap.size, 1, none⟩ = some (.slice A ls.length c) := HA4.out.1.cell 1
                have zK4 := HA4.out.1.lt
                have HBD : Hid (Below w.heap.size w W4.drew) := HA4.out.2.2.2.drew
                go_upto_region 13 with fail
                go_region_held3 (fun w' => w'.cell? ⟨w.heap.size, 0, none⟩ = some (.int .i64 (n : Int)) ∧ w'.cell? ⟨w.heap.size, 1, none⟩ = some (.slice A ls.length c) ∧ w'.cell? ⟨pb, po + i, none⟩ = some (.int .i64 (l : Int))) (simp [go_sem, World.cell?_alloc_past, *])
                  (first | (go_at_call 53; (with_reducible refine (HOE.out _ (by exact HBD.out)).mono ?_); rintro e w5 ⟨rfl, hb5⟩; have q0 := keepB hb5 (g := w.heap.size) (by exact zK4); have q1 := keepB hb5 (g := pb) (by exact hpbz); have HBE := Lib.hid hb5; have HBW5 : Hid (Below w.heap.size w w5) := HBD.out.trans (hb5.mono HBD.out.size); clear hb5)
                         | (go_at_call 46; (with_reducible refine (l1Has_any A3 zs.length c3 zs a _ rfl (by exact (HRD.out _ HBW5.out).2.2.2) HL3.out).mono ?_); rintro e w6 ⟨rfl, rfl⟩))
                have HB5 : Hid (Below w4.heap.size w4 w5) := HB4.out.trans ((undrew HBE.out).mono HB4.out.size)
                clear q0 q1 hs0 hs1
                have hall5 := HALL.out w5 HB5.out
                obtain ⟨fb, fo, hfA, hfbz, hfc⟩ := hall5.2.2.1.at1 (i := l) (by rw [HFLL.out]; exact hlm)
                subst hfA
                have hfc2 : w5.cell? ⟨fb, fo + l, none⟩ = some (.int .i64 f) := by
                  rw [hfc, ← HFV.out, ← flowL_at hlm, getD_lt (by rw [HFLL.out]; exact hlm)]; rfl
                have hpc5 : w5.cell? ⟨pb, po + i, none⟩ = some (.int .i64 (l : Int)) := by rw [← hpc2]; exact keepB (undrew HBE.out) hpbz _
                have hi2 : (i : Int) < (n : Int) := by have := HNB.out; omega
                have hl2 : (l : Int) < (on.length : Int) := by omega
                clear hfc hall5 hpc2
                by_cases hfr : (a : Int) ∈ zs
                · have HNX : Hid (T1 = SS (i + 1)) := by
                    unfold Hid; rw [HT1.out, if_pos hp0, Int.toNat_natCast, HOA.out, HFV.out, f01_t HIN.out, f01_t hfr]; omega
                  rw [decide_eq_true hfr]
                  clear hfr
                  go_wp2_with fail
                  exact ⟨⟨i + 1, T1, by go_num, rfl, by omega, HNX, HB5⟩, by simp [intOf]; omega⟩
                · have HNX : Hid (T1 + f = SS (i + 1)) := by
                    unfold Hid; rw [HT1.out, if_pos hp0, Int.toNat_natCast, HOA.out, HFV.out, f01_t HIN.out, f01_f hfr]; omega
                  rw [decide_eq_false hfr]
                  clear hfr
                  have hw2 : IntKind.i64.wrap (T1 + f) = T1 + f := IntWalk.i64_in _ (by omega)
                  go_wp2_with fail
                  exact ⟨⟨i + 1, T1 + f, by go_num, rfl, by omega, HNX, HB5⟩, by simp [intOf]; omega⟩
              · have HNX : Hid (T1 = SS (i + 1)) := by
                  unfold Hid; rw [HT1.out, if_neg hp0]; omega
                go_wp2_with fail
                exact ⟨⟨i + 1, T1, by go_num, rfl, by omega, HNX, HB4⟩, by simp [intOf]; omega⟩
            · have HT1 : Hid (SS (i + 1) = T + (if 0 ≤ p.getD i (-2) then (f01 ((i : Int) ∈ zs) - f01 (((oth ls (p.getD i (-2)).toNat i : Nat) : Int) ∈ zs)) * flowS ls bs p (p.getD i (-2)).toNat else 0)) := by
                unfold Hid; rw [hst, f01_f (P := (i : Int) ∈ zs ∧ 0 < feedAt bs i) (fun h => hfd (by rw [← HFA.out]; exact h.2))]; omega
              have hTb : -700000000 ≤ T ∧ T ≤ 700000000 := by omega
              clear hst cK zK
              subst hA2
              have hall := HALL.out wr HB.out
              obtain ⟨pb, po, hpA, hpbz, hpc⟩ := hall.2.1.at1 (i := i) (by rw [HPN.out]; exact hlt)
              subst hpA
              have hpc2 : wr.cell? ⟨pb, po + i, none⟩ = some (.int .i64 (p.getD i (-2))) := by rw [hpc, getD_lt (by rw [HPN.out]; exact hlt)]; rfl
              have HA4 := Lib.hid hall; clear hall hpc
              obtain ⟨x, hx⟩ : ∃ x, p.getD i (-2) = x := ⟨_, rfl⟩
              rw [hx] at hpc2 HT1
              have HXP := Lib.hid hx
              clear hx
              by_cases hp0 : 0 ≤ x
              · obtain ⟨q1, q2, q3, q4⟩ := HLD.out.line i (by rw [HXP.out]; exact hp0)
                rw [HXP.out] at q1 q2
                obtain ⟨l, hl⟩ : ∃ l : Nat, x = (l : Int) := ⟨x.toNat, by omega⟩
                subst hl
                rw [Int.toNat_natCast] at q1 q2
                obtain ⟨hll, hlA, hlB, hlne⟩ := HRA.out.1.ends l q1
                have hlm : l < on.length := isOn_lt q1
                have hfb := HFB.out l
                obtain ⟨f, hf⟩ : ∃ f, flowS ls bs p l = f := ⟨_, rfl⟩
                rw [hf] at hfb
                have HFV := Lib.hid hf
                have hOE := fun W (h : Below w.heap.size w W) => specOtherEnd_any n A c ls l i W HRA.out.1.1.1 hll q2 (HRD.out _ h).1
                obtain ⟨a, ha⟩ : ∃ a, oth ls l i = a := ⟨_, rfl⟩
                rw [ha] at hOE
                have HOA := Lib.hid ha
                have HOE := Lib.hid hOE
                clear hf ha q1 q2 q3 q4 hlA hlB hlne hOE
                have hs0 : wr.cell? ⟨w.heap.size, 0, none⟩ = some (.int .i64 (n : Int)) := HA4.out.1.cell 0
                have hs1 : wr.cell? ⟨w.heap.size, 1, none⟩ = some (.slice A ls.length c) := HA4.out.1.cell 1
                have zK4 := HA4.out.1.lt
                have HBD : Hid (Below w.heap.size w wr.drew) := HA4.out.2.2.2.drew
                go_upto_region 13 with fail
                go_region_held3 (fun w' => w'.cell? ⟨w.heap.size, 0, none⟩ = some (.int .i64 (n : Int)) ∧ w'.cell? ⟨w.heap.size, 1, none⟩ = some (.slice A ls.length c) ∧ w'.cell? ⟨pb, po + i, none⟩ = some (.int .i64 (l : Int))) (simp [go_sem, World.cell?_alloc_past, *])
                  (first | (go_at_call 53; (with_reducible refine (HOE.out _ (by exact HBD.out)).mono ?_); rintro e w5 ⟨rfl, hb5⟩; have q0 := keepB hb5 (g := w.heap.size) (by exact zK4); have q1 := keepB hb5 (g := pb) (by exact hpbz); have HBE := Lib.hid hb5; have HBW5 : Hid (Below w.heap.size w w5) := HBD.out.trans (hb5.mono HBD.out.size); clear hb5)
                         | (go_at_call 46; (with_reducible refine (l1Has_any A3 zs.length c3 zs a _ rfl (by exact (HRD.out _ HBW5.out).2.2.2) HL3.out).mono ?_); rintro e w6 ⟨rfl, rfl⟩))
                have HB5 : Hid (Below w4.heap.size w4 w5) := HB.out.trans ((undrew HBE.out).mono HB.out.size)
                clear q0 q1 hs0 hs1
                have hall5 := HALL.out w5 HB5.out
                obtain ⟨fb, fo, hfA, hfbz, hfc⟩ := hall5.2.2.1.at1 (i := l) (by rw [HFLL.out]; exact hlm)
                subst hfA
                have hfc2 : w5.cell? ⟨fb, fo + l, none⟩ = some (.int .i64 f) := by
                  rw [hfc, ← HFV.out, ← flowL_at hlm, getD_lt (by rw [HFLL.out]; exact hlm)]; rfl
                have hpc5 : w5.cell? ⟨pb, po + i, none⟩ = some (.int .i64 (l : Int)) := by rw [← hpc2]; exact keepB (undrew HBE.out) hpbz _
                have hi2 : (i : Int) < (n : Int) := by have := HNB.out; omega
                have hl2 : (l : Int) < (on.length : Int) := by omega
                clear hfc hall5 hpc2
                by_cases hfr : (a : Int) ∈ zs
                · have HNX : Hid (T = SS (i + 1)) := by
                    unfold Hid; rw [HT1.out, if_pos hp0, Int.toNat_natCast, HOA.out, HFV.out, f01_t HIN.out, f01_t hfr]; omega
                  rw [decide_eq_true hfr]
                  clear hfr
                  go_wp2_with fail
                  exact ⟨⟨i + 1, T, by go_num, rfl, by omega, HNX, HB5⟩, by simp [intOf]; omega⟩
                · have HNX : Hid (T + f = SS (i + 1)) := by
                    unfold Hid; rw [HT1.out, if_pos hp0, Int.toNat_natCast, HOA.out, HFV.out, f01_t HIN.out, f01_f hfr]; omega
                  rw [decide_eq_false hfr]
                  clear hfr
                  have hw2 : IntKind.i64.wrap (T + f) = T + f := IntWalk.i64_in _ (by omega)
                  go_wp2_with fail
                  exact ⟨⟨i + 1, T + f, by go_num, rfl, by omega, HNX, HB5⟩, by simp [intOf]; omega⟩
              · have HNX : Hid (T = SS (i + 1)) := by
                  unfold Hid; rw [HT1.out, if_neg hp0]; omega
                go_wp2_with fail
                exact ⟨⟨i + 1, T, by go_num, rfl, by omega, HNX, HB⟩, by simp [intOf]; omega⟩
          · rw [decide_eq_false hin]
            have HIN := Lib.hid hin
            have HT1 : Hid (SS (i + 1) = T + (if 0 ≤ p.getD i (-2) then (f01 ((i : Int) ∈ zs) - f01 (((oth ls (p.getD i (-2)).toNat i : Nat) : Int) ∈ zs)) * flowS ls bs p (p.getD i (-2)).toNat else 0)) := by
              unfold Hid; rw [hst, f01_f (P := (i : Int) ∈ zs ∧ 0 < feedAt bs i) (fun h => hin h.1)]; omega
            have hTb : -700000000 ≤ T ∧ T ≤ 700000000 := by omega
            clear hst cK zK hin
            subst hA2
            have hall := HALL.out wr HB.out
            obtain ⟨pb, po, hpA, hpbz, hpc⟩ := hall.2.1.at1 (i := i) (by rw [HPN.out]; exact hlt)
            subst hpA
            have hpc2 : wr.cell? ⟨pb, po + i, none⟩ = some (.int .i64 (p.getD i (-2))) := by rw [hpc, getD_lt (by rw [HPN.out]; exact hlt)]; rfl
            have HA4 := Lib.hid hall; clear hall hpc
            obtain ⟨x, hx⟩ : ∃ x, p.getD i (-2) = x := ⟨_, rfl⟩
            rw [hx] at hpc2 HT1
            have HXP := Lib.hid hx
            clear hx
            by_cases hp0 : 0 ≤ x
            · obtain ⟨q1, q2, q3, q4⟩ := HLD.out.line i (by rw [HXP.out]; exact hp0)
              rw [HXP.out] at q1 q2
              obtain ⟨l, hl⟩ : ∃ l : Nat, x = (l : Int) := ⟨x.toNat, by omega⟩
              subst hl
              rw [Int.toNat_natCast] at q1 q2
              obtain ⟨hll, hlA, hlB, hlne⟩ := HRA.out.1.ends l q1
              have hlm : l < on.length := isOn_lt q1
              have hfb := HFB.out l
              obtain ⟨f, hf⟩ : ∃ f, flowS ls bs p l = f := ⟨_, rfl⟩
              rw [hf] at hfb
              have HFV := Lib.hid hf
              have hOE := fun W (h : Below w.heap.size w W) => specOtherEnd_any n A c ls l i W HRA.out.1.1.1 hll q2 (HRD.out _ h).1
              obtain ⟨a, ha⟩ : ∃ a, oth ls l i = a := ⟨_, rfl⟩
              rw [ha] at hOE
              have HOA := Lib.hid ha
              have HOE := Lib.hid hOE
              clear hf ha q1 q2 q3 q4 hlA hlB hlne hOE
              have hs0 : wr.cell? ⟨w.heap.size, 0, none⟩ = some (.int .i64 (n : Int)) := HA4.out.1.cell 0
              have hs1 : wr.cell? ⟨w.heap.size, 1, none⟩ = some (.slice A ls.length c) := HA4.out.1.cell 1
              have zK4 := HA4.out.1.lt
              have HBD : Hid (Below w.heap.size w wr.drew) := HA4.out.2.2.2.drew
              go_upto_region 13 with fail
              go_region_held3 (fun w' => w'.cell? ⟨w.heap.size, 0, none⟩ = some (.int .i64 (n : Int)) ∧ w'.cell? ⟨w.heap.size, 1, none⟩ = some (.slice A ls.length c) ∧ w'.cell? ⟨pb, po + i, none⟩ = some (.int .i64 (l : Int))) (simp [go_sem, World.cell?_alloc_past, *])
                (first | (go_at_call 53; (with_reducible refine (HOE.out _ (by exact HBD.out)).mono ?_); rintro e w5 ⟨rfl, hb5⟩; have q0 := keepB hb5 (g := w.heap.size) (by exact zK4); have q1 := keepB hb5 (g := pb) (by exact hpbz); have HBE := Lib.hid hb5; have HBW5 : Hid (Below w.heap.size w w5) := HBD.out.trans (hb5.mono HBD.out.size); clear hb5)
                       | (go_at_call 46; (with_reducible refine (l1Has_any A3 zs.length c3 zs a _ rfl (by exact (HRD.out _ HBW5.out).2.2.2) HL3.out).mono ?_); rintro e w6 ⟨rfl, rfl⟩))
              have HB5 : Hid (Below w4.heap.size w4 w5) := HB.out.trans ((undrew HBE.out).mono HB.out.size)
              clear q0 q1 hs0 hs1
              have hall5 := HALL.out w5 HB5.out
              obtain ⟨fb, fo, hfA, hfbz, hfc⟩ := hall5.2.2.1.at1 (i := l) (by rw [HFLL.out]; exact hlm)
              subst hfA
              have hfc2 : w5.cell? ⟨fb, fo + l, none⟩ = some (.int .i64 f) := by
                rw [hfc, ← HFV.out, ← flowL_at hlm, getD_lt (by rw [HFLL.out]; exact hlm)]; rfl
              have hpc5 : w5.cell? ⟨pb, po + i, none⟩ = some (.int .i64 (l : Int)) := by rw [← hpc2]; exact keepB (undrew HBE.out) hpbz _
              have hi2 : (i : Int) < (n : Int) := by have := HNB.out; omega
              have hl2 : (l : Int) < (on.length : Int) := by omega
              clear hfc hall5 hpc2
              by_cases hfr : (a : Int) ∈ zs
              · have HNX : Hid (T - f = SS (i + 1)) := by
                  unfold Hid; rw [HT1.out, if_pos hp0, Int.toNat_natCast, HOA.out, HFV.out, f01_f HIN.out, f01_t hfr]; omega
                rw [decide_eq_true hfr]
                clear hfr
                have hw2 : IntKind.i64.wrap (T - f) = T - f := IntWalk.i64_in _ (by omega)
                go_wp2_with fail
                exact ⟨⟨i + 1, T - f, by go_num, rfl, by omega, HNX, HB5⟩, by simp [intOf]; omega⟩
              · have HNX : Hid (T = SS (i + 1)) := by
                  unfold Hid; rw [HT1.out, if_pos hp0, Int.toNat_natCast, HOA.out, HFV.out, f01_f HIN.out, f01_f hfr]; omega
                rw [decide_eq_false hfr]
                clear hfr
                go_wp2_with fail
                exact ⟨⟨i + 1, T, by go_num, rfl, by omega, HNX, HB5⟩, by simp [intOf]; omega⟩
            · have HNX : Hid (T = SS (i + 1)) := by
                unfold Hid; rw [HT1.out, if_neg hp0]; omega
              go_wp2_with fail
              exact ⟨⟨i + 1, T, by go_num, rfl, by omega, HNX, HB⟩, by simp [intOf]; omega⟩
        · obtain rfl : i = bs.length := by omega
          have hbw := (HALL.out wr HB.out).2.2.2
          have HBW := Lib.hid hbw; clear hbw
          have hnn : ¬ ((bs.length : Int) < (n : Int)) := by have := HNB.out; omega
          rw [HSUM.out, ← HZV.out] at HTT
          go_wp2_with fail
          go_ret
          exact ⟨by rw [← HTT.out]; rfl, HBW.out⟩
    · rw [zoneV_f.2 hz]
      have HNZ : Hid (zlV B ls on bs zs = -1) := zlV_f (fun h => hz h.2)
      clear hz
      go_wp2_with fail
      go_ret
      exact ⟨by rw [HNZ.out]; rfl, HB2.out⟩
  · have hrv := pB_false hrad
    have HRV := Lib.hid hrv
    have HNZ : Hid (zlV B ls on bs zs = -1) := zlV_f (fun h => hrad h.1)
    clear hrv hrad
    go_enter Try.func22, Try.ntmps22
    go_wp2_with fail
    refine (specRadial_any B A A1 A2 c c1 c2 ls on bs _ (HRD.out _ (by (repeat' (first | (with_reducible exact Below.refl _ _) | (with_reducible refine Below.alloc ?_ ?_ _) | (with_reducible refine Below.setCell ?_ ?_ _) | (with_reducible refine Below.drew ?_) | (refine Below.trans ?_ (Below.mono (by with_reducible assumption) ?_)) | go_size)))).1 (HRD.out _ (by (repeat' (first | (with_reducible exact Below.refl _ _) | (with_reducible refine Below.alloc ?_ ?_ _) | (with_reducible refine Below.setCell ?_ ?_ _) | (with_reducible refine Below.drew ?_) | (refine Below.trans ?_ (Below.mono (by with_reducible assumption) ?_)) | go_size)))).2.1 (HRD.out _ (by (repeat' (first | (with_reducible exact Below.refl _ _) | (with_reducible refine Below.alloc ?_ ?_ _) | (with_reducible refine Below.setCell ?_ ?_ _) | (with_reducible refine Below.drew ?_) | (refine Below.trans ?_ (Below.mono (by with_reducible assumption) ?_)) | go_size)))).2.2.1 hl hl1 hl2).mono ?_
    rintro e w1 ⟨rfl, hb1⟩
    rw [HRV.out]
    have HB1 : Hid (Below w.heap.size w w1) := by unfold Hid; (repeat' (first | (with_reducible exact Below.refl _ _) | (with_reducible refine Below.alloc ?_ ?_ _) | (with_reducible refine Below.setCell ?_ ?_ _) | (with_reducible refine Below.drew ?_) | (refine Below.trans ?_ (Below.mono (by with_reducible assumption) ?_)) | go_size))
    clear hb1
    go_wp2_with fail
    go_ret
    exact ⟨by rw [HNZ.out]; rfl, HB1.out⟩
end Go.Proofs.Ytdfgdeccejcpfaa
