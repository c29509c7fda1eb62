/- impl.ZoneFlow. -/
import Derived.Test.YtdfgdeccejcpfaaFlo
namespace Go.Proofs.Ytdfgdeccejcpfaa
open Go.RowKit Go.Deep
set_option linter.unusedSimpArgs false
set_option linter.unusedVariables false

theorem given_bd {bs : List R2} (h : ∀ x, 0 ≤ loadAt bs x ∧ loadAt bs x ≤ 999) (h8 : bs.length ≤ 8) (F : List Int) (x : Nat) : 0 ≤ given bs F x ∧ given bs F x ≤ 7992 := by
  have e : given bs F x = gsum bs F x bs.length := by unfold given; rw [gsum_all]
  rw [e]
  have := gsum_bd h F x bs.length
  omega
theorem ipart_bd {ls : List R3} {bs : List R2} {F P fl : List Int} {z : Nat → Prop} {k : Nat} (hg : 0 ≤ given bs F k ∧ given bs F k ≤ 7992) (hfl : 0 ≤ P.getD k (-1) → 0 ≤ fl.getD (P.getD k (-1)).toNat 0 ∧ fl.getD (P.getD k (-1)).toNat 0 ≤ 66000000) : -70000000 ≤ ipart ls bs F P fl z k ∧ ipart ls bs F P fl z k ≤ 70000000 := by
  unfold ipart
  rcases f01_cases (z k) with ⟨_, e1⟩ | ⟨_, e1⟩ <;> rcases f01_cases (z (oth ls (P.getD k (-1)).toNat k)) with ⟨_, e2⟩ | ⟨_, e2⟩ <;> rw [e1, e2] <;> split
  all_goals first
    | (rename_i hp; have := hfl hp; omega)
    | omega
theorem sumN_abs {f : Nat → Int} {n : Nat} (h : ∀ k, k < n → -70000000 ≤ f k ∧ f k ≤ 70000000) : ∀ k, k ≤ n → -70000000 * (k : Int) ≤ sumN f k ∧ sumN f k ≤ 70000000 * (k : Int)
  | 0, _ => by simp [sumN]
  | k + 1, hk => by
    have := sumN_abs h k (by omega)
    have := h k (by omega)
    show -70000000 * ((k + 1 : Nat) : Int) ≤ sumN f k + f k ∧ sumN f k + f k ≤ 70000000 * ((k + 1 : Nat) : Int)
    omega
set_option maxRecDepth 100000 in
set_option maxHeartbeats 16000000 in
theorem implZoneFlow_any (B : Int) (A A1 A2 A3 : Option Addr) (c c1 c2 c3 : Nat) (ls : List R3) (on : List Bool) (bs : List R2) (zs : List Int) (w : World) (hR : Reads 3 r3C w w.heap.size A ls) (hR1 : Reads 1 boolC w w.heap.size A1 on) (hR2 : Reads 2 r2C w w.heap.size A2 bs) (hR3 : Reads 1 intC w w.heap.size A3 zs) (hl : ls.length ≤ 1048576) (hl1 : on.length ≤ 1048576) (hl2 : bs.length ≤ 1048576) (hl3 : zs.length ≤ 1048576) :
    Calls Try.prog 23 #[.agg #[.int .i64 B, .slice A ls.length c], .slice A1 on.length c1, .slice A2 bs.length c2, .slice A3 zs.length c3] w fun e w' => e = .returned (.int .i64 (zlV B ls on bs zs)) ∧ Below w.heap.size w w' := by
  have HR := Lib.hid hR; have HR1 := Lib.hid hR1; have HR2 := Lib.hid hR2; have HR3 := Lib.hid hR3
  clear hR hR1 hR2 hR3
  have HRX : ∀ W, Below w.heap.size w W → Reads 3 r3C W W.heap.size A ls ∧ Reads 1 boolC W W.heap.size A1 on ∧ Reads 2 r2C W W.heap.size A2 bs ∧ Reads 1 intC W W.heap.size A3 zs := fun W h => ⟨(HR.out.below h (Nat.le_refl _)).more h.size, (HR1.out.below h (Nat.le_refl _)).more h.size, (HR2.out.below h (Nat.le_refl _)).more h.size, (HR3.out.below h (Nat.le_refl _)).more h.size⟩
  have HRD := Lib.hid HRX; clear HRX
  have HL3 := Lib.hid hl3
  go_enter Try.func23, Try.ntmps23
  go_wp2_with fail
  refine (treeOf_any B A A1 A2 c c1 c2 ls on bs _ (HRD.out _ (by (repeat' (first | (with_reducible exact Below.refl _ _) | (with_reducible refine Below.alloc ?_ ?_ _) | (with_reducible refine Below.setCell ?_ ?_ _) | (with_reducible refine Below.drew ?_) | (refine Below.trans ?_ (Below.mono (by with_reducible assumption) ?_)) | go_size)))).1 (HRD.out _ (by (repeat' (first | (with_reducible exact Below.refl _ _) | (with_reducible refine Below.alloc ?_ ?_ _) | (with_reducible refine Below.setCell ?_ ?_ _) | (with_reducible refine Below.drew ?_) | (refine Below.trans ?_ (Below.mono (by with_reducible assumption) ?_)) | go_size)))).2.1 (HRD.out _ (by (repeat' (first | (with_reducible exact Below.refl _ _) | (with_reducible refine Below.alloc ?_ ?_ _) | (with_reducible refine Below.setCell ?_ ?_ _) | (with_reducible refine Below.drew ?_) | (refine Below.trans ?_ (Below.mono (by with_reducible assumption) ?_)) | go_size)))).2.2.1 hl hl1 hl2).mono ?_
  rintro e w1 ⟨hb1, ⟨hrad, v, F, P, O, rfl, htr⟩ | ⟨hnr, rfl⟩⟩
  · have HG1 : Hid (Bk w1 w.heap.size 30 #[.int .i64 B, .slice A ls.length c]) := (Bk.new _ _ _).keep hb1
    have HB1 : Hid (Below w.heap.size w w1) := by unfold Hid; (repeat' (first | (with_reducible exact Below.refl _ _) | (with_reducible refine Below.alloc ?_ ?_ _) | (with_reducible refine Below.setCell ?_ ?_ _) | (with_reducible refine Below.drew ?_) | (refine Below.trans ?_ (Below.mono (by with_reducible assumption) ?_)) | go_size))
    clear hb1
    have HRA := Lib.hid hrad
    have HTS := Lib.hid htr.tree
    obtain ⟨gF, gP, oA, oc, rfl, hrF, hrP, hrO⟩ := htr.val
    have HTC1 : Hid (TreeC w1 gF gP oA F P O) := ⟨hrF, hrP, hrO⟩
    clear hrad htr hrF hrP hrO
    obtain ⟨n, hn⟩ : ∃ n : Nat, B = n := ⟨B.toNat, by have := HRA.out.1.1.1.1; omega⟩
    subst hn
    obtain ⟨TO, hTO⟩ : ∃ o : Obj, o = (.cells #[.int .i64 (n : Int), .slice A ls.length c, .slice (some ⟨gF, 0, none⟩) bs.length bs.length, .slice (some ⟨gP, 0, none⟩) bs.length bs.length, .slice oA O.length oc] 72) := ⟨_, rfl⟩
    have HK9 : Hid (Bk (w1.alloc (.cells #[.int .i64 (n : Int), .slice A ls.length c, .slice (some ⟨gF, 0, none⟩) bs.length bs.length, .slice (some ⟨gP, 0, none⟩) bs.length bs.length, .slice oA O.length oc] 72)) w1.heap.size 72 #[.int .i64 (n : Int), .slice A ls.length c, .slice (some ⟨gF, 0, none⟩) bs.length bs.length, .slice (some ⟨gP, 0, none⟩) bs.length bs.length, .slice oA O.length oc]) := Bk.new _ _ _
    have HBX : Hid (Below w.heap.size w (w1.alloc (.cells #[.int .i64 (n : Int), .slice A ls.length c, .slice (some ⟨gF, 0, none⟩) bs.length bs.length, .slice (some ⟨gP, 0, none⟩) bs.length bs.length, .slice oA O.length oc] 72))) := HB1.out.alloc HB1.out.size _
    have HTCX := Lib.hid (HTC1.out.keep (Below.alloc (Below.refl _ _) (Nat.le_refl _) (.cells #[.int .i64 (n : Int), .slice A ls.length c, .slice (some ⟨gF, 0, none⟩) bs.length bs.length, .slice (some ⟨gP, 0, none⟩) bs.length bs.length, .slice oA O.length oc] 72)))
    clear hTO
    have cG := HG1.out.cell; have zG := HG1.out.lt
    go_wp2_with fail
    refine (implZoneValid_any (n : Int) A A3 c c3 ls zs _ (HRD.out _ HBX.out).1 (HRD.out _ HBX.out).2.2.2 hl hl3).mono ?_
    rintro e w2 ⟨rfl, hb2⟩
    have hnv : netV (n : Int) ls = true := netV_t.2 HRA.out.1.1.1
    rw [hnv, Bool.true_and]
    clear hnv
    have HK2 := Lib.hid (HK9.out.keep hb2)
    have HB2 : Hid (Below w.heap.size w w2) := HBX.out.trans (hb2.mono HBX.out.size)
    have HTC2 := Lib.hid (HTCX.out.keep hb2)
    clear hb2 HK9 HTCX HTC1 cG zG
    by_cases hz : ZoneP n zs
    · rw [zoneV_t.2 hz]
      have HZV := Lib.hid (zlV_t (zs := zs) ⟨HRA.out, hz⟩)
      clear hz
      have hlens := HRA.out.1.lens
      obtain ⟨hb8, hb1, hm10, hle, hBn⟩ := hlens
      have hnb : bs.length = n := by omega
      have HNB := Lib.hid hnb
      clear hle hBn hnb
      have cK := HK2.out.cell; have zK := HK2.out.lt
      go_wp2_with fail
      refine (flows_any n A c gF gP oA A2 oc c2 ls on bs F P O w2 HRA.out.1 HTC2.out HTS.out (HRD.out _ HB2.out).1 (HRD.out _ HB2.out).2.2.1).mono ?_
      rintro e w3 ⟨fv, rfl, hfr, hb3⟩
      have HTP := Lib.hid (HTS.out.tree HRA.out.1.ends).1
      have hfl := fpass_len (ls := ls) (bs := bs) (P := P) O
      have hps := HTP.out.passed HRA.out.1.ends HRA.out.1.load (by have := HRA.out.1.lens; exact this.2.2.2.1) [] O rfl
      have hsum := HTP.out.sum_eq HRA.out.1.ends HRA.out.1.load (by have := HRA.out.1.lens; exact this.2.2.2.1) (fun x => (x : Int) ∈ zs)
      have hO8 : O.length ≤ 8 := by have := HTS.out.short; omega
      have h4 := pow4_65 hO8
      have HFB : Hid (∀ k, 0 ≤ P.getD k (-1) → 0 ≤ (fpass ls bs P O).1.getD (P.getD k (-1)).toNat 0 ∧ (fpass ls bs P O).1.getD (P.getD k (-1)).toNat 0 ≤ 66000000) := fun k hk => by
        have hkO := (HTP.out.ord k).2 (HTP.out.line k hk).1
        rw [hps.flow k hkO hk]
        have := hps.low k
        omega
      generalize (fpass ls bs P O).1 = fl at hfr hsum HFB hfl
      have HSUM := Lib.hid hsum
      have HFL := Lib.hid hfr
      obtain ⟨fA, fc, rfl, -⟩ := hfr
      rw [hfl.1]
      have hfll := hfl.1
      rw [hfll] at HFL
      have HFLL := Lib.hid hfll
      have HB3 : Hid (Below w.heap.size w w3) := HB2.out.trans (hb3.mono HB2.out.size)
      have HK3 := Lib.hid (HK2.out.keep hb3)
      have HTC3 := Lib.hid (HTC2.out.keep hb3)
      clear hb3 hps hsum hfl hfll h4 hO8 cK zK
      have HALL : Hid (∀ W, Below w3.heap.size w3 W → Bk W w1.heap.size 72 #[.int .i64 (n : Int), .slice A ls.length c, .slice (some ⟨gF, 0, none⟩) bs.length bs.length, .slice (some ⟨gP, 0, none⟩) bs.length bs.length, .slice oA O.length oc] ∧ TreeC W gF gP oA F P O ∧ Reads 1 intC W W.heap.size fA fl ∧ Below w.heap.size w W) := fun W h =>
        ⟨HK3.out.keep h, HTC3.out.keep h, ((HFL.out.reads.1).below h (Nat.le_refl _)).more h.size, HB3.out.trans (h.mono HB3.out.size)⟩
      have HAB := Lib.hid (sumN_abs (f := ipart ls bs F P fl (fun x => (x : Int) ∈ zs)) (n := bs.length) (fun k hk => ipart_bd (given_bd HRA.out.1.load (by omega) F k) (HFB.out k)))
      have HST : Hid (∀ k, sumN (ipart ls bs F P fl (fun x => (x : Int) ∈ zs)) (k + 1) = sumN (ipart ls bs F P fl (fun x => (x : Int) ∈ zs)) k + (f01 ((k : Int) ∈ zs) * given bs F k + (if 0 ≤ P.getD k (-1) then (f01 ((k : Int) ∈ zs) - f01 (((oth ls (P.getD k (-1)).toNat k : Nat) : Int) ∈ zs)) * fl.getD (P.getD k (-1)).toNat 0 else 0))) := fun k => rfl
      generalize hSS : sumN (ipart ls bs F P fl (fun x => (x : Int) ∈ zs)) = SS at HSUM HAB HST
      have HS0 : Hid (SS 0 = 0) := by unfold Hid; rw [← hSS]; rfl
      clear hSS
      go_wp2_with fail
      go_loopw [11, 37] (fun t11 t wr => ∃ (i : Nat) (T : Int), t = .int .i64 i ∧ t11 = .int .i64 T ∧ i ≤ bs.length ∧ Hid (T = SS i) ∧ Hid (Below w3.heap.size w3 wr)) (fun _ t _ => bs.length - (intOf t).toNat)
      case atStart => exact ⟨0, 0, rfl, rfl, Nat.zero_le _, HS0.out.symm, Below.refl _ _⟩
      case round =>
        obtain ⟨i, T, rfl, rfl, hi, HTT, HB⟩ := hrel
        by_cases hlt : i < bs.length
        · have hall0 := HALL.out wr HB.out
          have hst := HST.out i
          have hab := HAB.out i (by omega)
          rw [← HTT.out] at hst hab
          have cK := hall0.1.cell; have zK := hall0.1.lt
          have hi1 : (i : Int) < (bs.length : Int) := by omega
          have hgb := given_bd HRA.out.1.load (by omega) F i
          have HA0 := Lib.hid hall0
          clear hall0
          go_wp2_with fail
          refine (containsInt_any A3 zs.length c3 zs i wr rfl (HRD.out _ HA0.out.2.2.2).2.2.2 HL3.out).mono ?_
          rintro e wq ⟨rfl, rfl⟩
          by_cases hin : (i : Int) ∈ zs
          · rw [decide_eq_true hin]
            have HIN := Lib.hid hin
            clear hin
            obtain ⟨gv, hgv⟩ : ∃ g, given bs F i = g := ⟨_, rfl⟩
            rw [hgv] at hst hgb
            have HGV := Lib.hid hgv
            clear hgv
            go_wp2_with fail
            refine (given_any (n : Int) (.slice A ls.length c) gF gP oA A2 O.length oc c2 bs F P O i wr HA0.out.2.1 HTS.out.lenF (by omega) HRA.out.1.load (HRD.out _ HA0.out.2.2.2).2.2.1).mono ?_
            rintro e W4 ⟨rfl, hb4⟩
            rw [HGV.out]
            have HB4 : Hid (Below w3.heap.size w3 W4) := HB.out.trans (hb4.mono HB.out.size)
            have hw1 : IntKind.i64.wrap (T + gv) = T + gv := IntWalk.i64_in _ (by omega)
            obtain ⟨T1, hT1⟩ : ∃ T1, T + gv = T1 := ⟨_, rfl⟩
            have HT1 : Hid (SS (i + 1) = T1 + (if 0 ≤ P.getD i (-1) then (f01 ((i : Int) ∈ zs) - f01 (((oth ls (P.getD i (-1)).toNat i : Nat) : Int) ∈ zs)) * fl.getD (P.getD i (-1)).toNat 0 else 0)) := by
              unfold Hid; rw [hst, ← hT1, f01_t HIN.out]; omega
            have hTb : -700000000 ≤ T1 ∧ T1 ≤ 700000000 := by omega
            rw [hT1] at hw1
            clear hst hb4 cK zK
            have HTE := Lib.hid hT1
            have hall := HALL.out W4 HB4.out
            have cK4 := hall.1.cell; have zK4 := hall.1.lt
            have cP4 := hall.2.1.rP.cell (i := i) (by rw [HTS.out.lenP]; exact hlt)
            have zP4 := hall.2.1.rP.lt
            unfold iV at cP4
            have HA4 := Lib.hid hall; clear hall
            obtain ⟨p, hp⟩ : ∃ p, P.getD i (-1) = p := ⟨_, rfl⟩
            rw [hp] at cP4 HT1
            have HP := Lib.hid hp
            clear hp
            by_cases hp0 : 0 ≤ p
            · obtain ⟨q1, q2, q3, q4⟩ := HTP.out.line i (by rw [HP.out]; exact hp0)
              rw [HP.out] at q2 q3
              obtain ⟨l, hl⟩ : ∃ l : Nat, p = (l : Int) := ⟨p.toNat, by omega⟩
              subst hl
              rw [Int.toNat_natCast] at q2 q3
              obtain ⟨hll, hlA, hlB, hlne⟩ := HRA.out.1.ends l q2
              have hfb := HFB.out i (by rw [HP.out]; exact hp0)
              rw [HP.out, Int.toNat_natCast] at hfb
              obtain ⟨f, hf⟩ : ∃ f, fl.getD l 0 = f := ⟨_, rfl⟩
              rw [hf] at hfb
              have HFV := Lib.hid hf
              obtain ⟨a, ha⟩ : ∃ a, oth ls l i = a := ⟨_, rfl⟩
              have HOA := Lib.hid ha
              have HQ3 := Lib.hid q3
              clear hf ha q1 q2 q4 hlA hlB hlne q3
              have hl1' : (l : Int) < (ls.length : Int) := by omega
              go_wp2_with fail
              refine (above_any (n : Int) A c gF gP bs.length oA O.length oc ls F P O i l W4 HRA.out.1.1.1 HA4.out.2.1 HTS.out.lenP hlt HP.out hll HQ3.out (HRD.out _ HA4.out.2.2.2).1).mono ?_
              rintro e w5 ⟨rfl, hb5⟩
              rw [HOA.out]
              have HB5 : Hid (Below w3.heap.size w3 w5) := HB4.out.trans (hb5.mono HB4.out.size)
              clear hb5 cK4 zK4 cP4 zP4
              have hall5 := HALL.out w5 HB5.out
              have hflr := hall5.2.2.1
              obtain ⟨fb, fo, rfl, hfbz, hfc⟩ := hflr.at1 (i := l) (by rw [HFLL.out]; exact hll)
              have hfc2 : w5.cell? ⟨fb, fo + l, none⟩ = some (.int .i64 f) := by rw [hfc, ← HFV.out, getD_lt (by rw [HFLL.out]; exact hll)]; rfl
              have HA5 := Lib.hid hall5
              clear hfc hflr hall5
              go_wp2_with fail
              refine (containsInt_any A3 zs.length c3 zs a w5 rfl (HRD.out _ HA5.out.2.2.2).2.2.2 HL3.out).mono ?_
              rintro e w6 ⟨rfl, rfl⟩
              by_cases hfr : (a : Int) ∈ zs
              · have HNX : Hid (T1 = SS (i + 1)) := by
                  unfold Hid; rw [HT1.out, if_pos hp0, Int.toNat_natCast, HOA.out, HFV.out, f01_t HIN.out, f01_t hfr]; omega
                rw [decide_eq_true hfr]
                clear hfr
                go_wp2_with fail
                exact ⟨⟨i + 1, T1, by go_num, rfl, by omega, HNX, HB5⟩, by simp [intOf]; omega⟩
              · have HNX : Hid (T1 + f = SS (i + 1)) := by
                  unfold Hid; rw [HT1.out, if_pos hp0, Int.toNat_natCast, HOA.out, HFV.out, f01_t HIN.out, f01_f hfr]; omega
                rw [decide_eq_false hfr]
                clear hfr
                have hw2 : IntKind.i64.wrap (T1 + f) = T1 + f := IntWalk.i64_in _ (by omega)
                go_wp2_with fail
                exact ⟨⟨i + 1, T1 + f, by go_num, rfl, by omega, HNX, HB5⟩, by simp [intOf]; omega⟩
            · have HNX : Hid (T1 = SS (i + 1)) := by
                unfold Hid; rw [HT1.out, if_neg hp0]; omega
              go_wp2_with fail
              exact ⟨⟨i + 1, T1, by go_num, rfl, by omega, HNX, HB4⟩, by simp [intOf]; omega⟩
          · rw [decide_eq_false hin]
            have HIN := Lib.hid hin
            clear hin
            have HB4 := HB
            obtain ⟨T1, hT1⟩ : ∃ T1, T = T1 := ⟨_, rfl⟩
            have HT1 : Hid (SS (i + 1) = T1 + (if 0 ≤ P.getD i (-1) then (f01 ((i : Int) ∈ zs) - f01 (((oth ls (P.getD i (-1)).toNat i : Nat) : Int) ∈ zs)) * fl.getD (P.getD i (-1)).toNat 0 else 0)) := by
              unfold Hid; rw [hst, ← hT1, f01_f HIN.out]; omega
            have hTb : -700000000 ≤ T1 ∧ T1 ≤ 700000000 := by omega
            subst hT1
            clear hst cK zK
            have hall := HALL.out wr HB4.out
            have cK4 := hall.1.cell; have zK4 := hall.1.lt
            have cP4 := hall.2.1.rP.cell (i := i) (by rw [HTS.out.lenP]; exact hlt)
            have zP4 := hall.2.1.rP.lt
            unfold iV at cP4
            have HA4 := Lib.hid hall; clear hall
            obtain ⟨p, hp⟩ : ∃ p, P.getD i (-1) = p := ⟨_, rfl⟩
            rw [hp] at cP4 HT1
            have HP := Lib.hid hp
            clear hp
            by_cases hp0 : 0 ≤ p
            · obtain ⟨q1, q2, q3, q4⟩ := HTP.out.line i (by rw [HP.out]; exact hp0)
              rw [HP.out] at q2 q3
              obtain ⟨l, hl⟩ : ∃ l : Nat, p = (l : Int) := ⟨p.toNat, by omega⟩
              subst hl
              rw [Int.toNat_natCast] at q2 q3
              obtain ⟨hll, hlA, hlB, hlne⟩ := HRA.out.1.ends l q2
              have hfb := HFB.out i (by rw [HP.out]; exact hp0)
              rw [HP.out, Int.toNat_natCast] at hfb
              obtain ⟨f, hf⟩ : ∃ f, fl.getD l 0 = f := ⟨_, rfl⟩
              rw [hf] at hfb
              have HFV := Lib.hid hf
              obtain ⟨a, ha⟩ : ∃ a, oth ls l i = a := ⟨_, rfl⟩
              have HOA := Lib.hid ha
              have HQ3 := Lib.hid q3
              clear hf ha q1 q2 q4 hlA hlB hlne q3
              have hl1' : (l : Int) < (ls.length : Int) := by omega
              go_wp2_with fail
              refine (above_any (n : Int) A c gF gP bs.length oA O.length oc ls F P O i l wr HRA.out.1.1.1 HA4.out.2.1 HTS.out.lenP hlt HP.out hll HQ3.out (HRD.out _ HA4.out.2.2.2).1).mono ?_
              rintro e w5 ⟨rfl, hb5⟩
              rw [HOA.out]
              have HB5 : Hid (Below w3.heap.size w3 w5) := HB4.out.trans (hb5.mono HB4.out.size)
              clear hb5 cK4 zK4 cP4 zP4
              have hall5 := HALL.out w5 HB5.out
              have hflr := hall5.2.2.1
              obtain ⟨fb, fo, rfl, hfbz, hfc⟩ := hflr.at1 (i := l) (by rw [HFLL.out]; exact hll)
              have hfc2 : w5.cell? ⟨fb, fo + l, none⟩ = some (.int .i64 f) := by rw [hfc, ← HFV.out, getD_lt (by rw [HFLL.out]; exact hll)]; rfl
              have HA5 := Lib.hid hall5
              clear hfc hflr hall5
              go_wp2_with fail
              refine (containsInt_any A3 zs.length c3 zs a w5 rfl (HRD.out _ HA5.out.2.2.2).2.2.2 HL3.out).mono ?_
              rintro e w6 ⟨rfl, rfl⟩
              by_cases hfr : (a : Int) ∈ zs
              · have HNX : Hid (T - f = SS (i + 1)) := by
                  unfold Hid; rw [HT1.out, if_pos hp0, Int.toNat_natCast, HOA.out, HFV.out, f01_f HIN.out, f01_t hfr]; omega
                rw [decide_eq_true hfr]
                clear hfr
                have hw2 : IntKind.i64.wrap (T - f) = T - f := IntWalk.i64_in _ (by omega)
                go_wp2_with fail
                exact ⟨⟨i + 1, T - f, by go_num, rfl, by omega, HNX, HB5⟩, by simp [intOf]; omega⟩
              · have HNX : Hid (T = SS (i + 1)) := by
                  unfold Hid; rw [HT1.out, if_pos hp0, Int.toNat_natCast, HOA.out, HFV.out, f01_f HIN.out, f01_f hfr]; omega
                rw [decide_eq_false hfr]
                clear hfr
                go_wp2_with fail
                exact ⟨⟨i + 1, T, by go_num, rfl, by omega, HNX, HB5⟩, by simp [intOf]; omega⟩
            · have HNX : Hid (T = SS (i + 1)) := by
                unfold Hid; rw [HT1.out, if_neg hp0]; omega
              go_wp2_with fail
              exact ⟨⟨i + 1, T, by go_num, rfl, by omega, HNX, HB4⟩, by simp [intOf]; omega⟩
        · obtain rfl : i = bs.length := by omega
          have hbw := (HALL.out wr HB.out).2.2.2
          have HBW := Lib.hid hbw; clear hbw
          rw [HSUM.out, ← HZV.out] at HTT
          go_wp2_with fail
          go_ret
          exact ⟨by rw [← HTT.out]; rfl, HBW.out⟩
    · rw [zoneV_f.2 hz]
      have HNZ : Hid (zlV n ls on bs zs = -1) := zlV_f (fun h => hz h.2)
      clear hz
      go_wp2_with fail
      go_ret
      exact ⟨by rw [HNZ.out]; rfl, HB2.out⟩
  · have HNZ : Hid (zlV B ls on bs zs = -1) := zlV_f (fun h => hnr h.1)
    have HB1 : Hid (Below w.heap.size w w1) := by unfold Hid; (repeat' (first | (with_reducible exact Below.refl _ _) | (with_reducible refine Below.alloc ?_ ?_ _) | (with_reducible refine Below.setCell ?_ ?_ _) | (with_reducible refine Below.drew ?_) | (refine Below.trans ?_ (Below.mono (by with_reducible assumption) ?_)) | go_size))
    clear hnr hb1
    go_wp2_with fail
    go_ret
    exact ⟨by rw [HNZ.out]; rfl, HB1.out.alloc HB1.out.size _⟩
end Go.Proofs.Ytdfgdeccejcpfaa
