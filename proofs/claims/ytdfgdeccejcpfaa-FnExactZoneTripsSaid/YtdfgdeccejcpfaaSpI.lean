/- spec.l6Parents. -/
import Derived.Test.YtdfgdeccejcpfaaSpH
namespace Go.Proofs.Ytdfgdeccejcpfaa
open Go.RowKit Go.Deep
set_option linter.unusedSimpArgs false
set_option linter.unusedVariables false

set_option maxRecDepth 100000 in
set_option maxHeartbeats 16000000 in
theorem l6Parents_any (n : Nat) (A A1 A2 : Option Addr) (c c1 c2 : Nat) (ls : List R3) (on : List Bool) (bs : List R2) (w : World) (hf : FedP n ls on bs) (hR : Reads 3 r3C w w.heap.size A ls) (hR1 : Reads 1 boolC w w.heap.size A1 on) (hR2 : Reads 2 r2C w w.heap.size A2 bs) :
    Calls Try.prog 50 #[.agg #[.int .i64 (n : Int), .slice A ls.length c], .slice A1 on.length c1, .slice A2 bs.length c2] w (RetS 1 intC 3 w (pars ls on bs)) := by
  have HR := Lib.hid hR; have HR1 := Lib.hid hR1; have HR2 := Lib.hid hR2
  clear hR hR1 hR2
  have hlens := hf.lens
  obtain ⟨hb8, hb1, hm10, hle, hBn⟩ := hlens
  have hnb : bs.length = n := by omega
  have HF := Lib.hid hf
  have HNB := Lib.hid hnb
  have HLE := Lib.hid hle
  obtain ⟨m, hm⟩ : ∃ m, on.length = m := ⟨_, rfl⟩
  have HM := Lib.hid hm
  have hHL : ls.length = m := by omega
  have HLL := Lib.hid hHL
  rw [hnb, hm, hHL]
  rw [hnb] at hb8 hb1
  rw [hHL] at hm10
  have HPE : Hid (pars ls on bs = prounds ls on (par0 bs) n) := by unfold Hid pars; rw [hnb]
  have hP0 : (par0 bs).length = n := by unfold par0; rw [List.length_map]; exact hnb
  have HP0 := Lib.hid hP0
  have hG0 : PGe (par0 bs) := fun i => by rw [par0_at]; split <;> omega
  have HG0 : Hid (∀ j, PGe (prounds ls on (par0 bs) j)) := fun j => (prounds_fed HF.out.ends hle hG0 j).1
  clear hf hnb hle hm hHL hBn hP0 hG0
  go_enter Try.func50, Try.ntmps50
  have HK0 : Hid (Bk ((w.alloc (.cells #[.int .i64 (n : Int), .slice A m c] 30)).alloc (.cells #[] 3)) w.heap.size 30 #[.int .i64 (n : Int), .slice A m c]) := (Bk.new _ _ _).alloc _
  have HO0 : Hid (Own 1 intC 3 ((w.alloc (.cells #[.int .i64 (n : Int), .slice A m c] 30)).alloc (.cells #[] 3)) (w.heap.size + 1) (.slice (some ⟨w.heap.size + 1, 0, none⟩) 0 0) ([] : List Int)) := by
    have h := Own.lit (k := 1) (c := intC) (B := w.heap.size + 1) (w.alloc (.cells #[.int .i64 (n : Int), .slice A m c] 30)) 3 #[] 0 [] (by simp) rfl (by omega) rfl
    simp only [World.size_alloc] at h
    exact h
  have HB0 : Hid (Below w.heap.size w ((w.alloc (.cells #[.int .i64 (n : Int), .slice A m c] 30)).alloc (.cells #[] 3))) := by unfold Hid; (repeat' (first | (with_reducible exact Below.refl _ _) | (with_reducible refine Below.alloc ?_ ?_ _) | (with_reducible refine Below.setCell ?_ ?_ _) | (with_reducible refine Below.drew ?_) | (refine Below.trans ?_ (Below.mono (by with_reducible assumption) ?_)) | go_size))
  go_wp2_with fail
  go_loopw [7, 8] (fun t7 t8 wr => ∃ k : Nat, t8 = .int .i64 k ∧ k ≤ n ∧ Hid (Own 1 intC 3 wr (w.heap.size + 1) t7 ((par0 bs).take k)) ∧ Hid (Bk wr w.heap.size 30 #[.int .i64 (n : Int), .slice A m c]) ∧ Hid (Below w.heap.size w wr)) (fun _ t8 _ => n - (intOf t8).toNat)
  case atStart => exact ⟨0, rfl, Nat.zero_le _, HO0, HK0, HB0⟩
  case round =>
    obtain ⟨k, rfl, hk, HO, HK, HB⟩ := hrel
    clear HO0 HK0 HB0
    have cK := HK.out.cell; have zK := HK.out.lt
    by_cases hlt : k < n
    · have hk1 : (k : Int) < (n : Int) := by omega
      have hkb : k < bs.length := by rw [HNB.out]; exact hlt
      obtain ⟨lb, lo, rfl, hlb, hc0, -⟩ := HR2.out.at2 hkb
      have hc0 := (HB.out.cell (p := ⟨lb, lo + k * 2, none⟩) hlb).trans hc0
      have htk := par0_take hkb
      generalize bs[k].a = x at hc0 htk
      have HTK := Lib.hid htk
      clear htk
      obtain ⟨vA, vc, hv⟩ := HO.out.slice
      have hil : ((par0 bs).take k).length ≤ 8 := by rw [List.length_take, HP0.out]; omega
      subst hv
      have hzw : w.heap.size + 1 ≤ wr.heap.size := by omega
      by_cases hx : (0 : Int) < x
      · have HL_1 := Lib.hid (Own.lit (k := 1) (c := intC) (B := (w.heap.size + 1)) wr 3 #[.int .i64 (-1)] 1 [(-1 : Int)] (by first | exact Nat.le_refl _ | omega) rfl (by omega) rfl); have HQ_1 := Lib.hid (HL_1.out.reads rfl).1; have HV_1 := Lib.hid (Own.alloc (HO.out) (.cells #[.int .i64 (-1)] 3)); have HK_1 := Lib.hid (Own.blk (HO.out)); go_wp2_with (first | (at_builtin; refine wpList_app_g (k := 1) (c := intC) _ (by rfl) _ _ _ rfl 3 (.int .i64 0) 8 Try.underlying25 (by kernel_rfl) rfl (by decide) (by decide) intC_one _ _ _ rfl HV_1.out _ _ _ _ rfl HQ_1.out ?hm ?hlen ?hB ?_; (case hm => (first | rfl | (simp; done) | omega)); (case hlen => (simp only [List.length_cons, List.length_nil]; omega)); (case hB => ((try simp only [World.size_alloc, World.size_drew]); omega)); intro v_1 w_1 hown_1 hg_1 hat_1; have HW_1 : Hid (Below ((w.heap.size + 1)) (wr) w_1) := (Below.alloc (Below.refl _ _) (by first | exact Nat.le_refl _ | omega) _).grown hg_1 (by (try simp only [World.size_alloc]); omega) (fun q hq => (HK_1.out q hq).1); have HG_1 := Lib.hid hg_1; have HAT_1 := Lib.hid hat_1; have HO_1 := Lib.hid hown_1; obtain ⟨A_1, c_1, hv_1⟩ := hown_1.slice; simp only [List.length_append, List.length_cons, List.length_nil, Nat.zero_add] at hv_1; subst hv_1; have hz_1 := HG_1.out.size; (try simp only [World.size_alloc] at hz_1); clear hown_1 hg_1 hat_1 HL_1 HQ_1 HV_1))
        have HON : Hid (Own 1 intC 3 w_1 (w.heap.size + 1) (.slice A_1 (((par0 bs).take k).length + 1) c_1) ((par0 bs).take (k + 1))) := by unfold Hid; rw [HTK.out, if_pos hx]; exact HO_1.out
        have HON : Hid (Own 1 intC 3 w_1 (w.heap.size + 1) (.slice A_1 (min k (par0 bs).length + 1) c_1) ((par0 bs).take (k + 1))) := by have h := HON.out; rw [List.length_take] at h; exact h
        have HKN : Hid (Bk w_1 w.heap.size 30 #[.int .i64 (n : Int), .slice A m c]) := (HK.out.alloc _).grown HG_1.out (fun e => by have := (HK_1.out _ e.symm).1; omega)
        have HBN : Hid (Below w.heap.size w w_1) := HB.out.trans (HW_1.out.mono (by omega))
        exact ⟨⟨k + 1, by go_num, by omega, HON, HKN, HBN⟩, by simp [intOf]; omega⟩
      · have HL_1 := Lib.hid (Own.lit (k := 1) (c := intC) (B := (w.heap.size + 1)) wr 3 #[.int .i64 (-2)] 1 [(-2 : Int)] (by first | exact Nat.le_refl _ | omega) rfl (by omega) rfl); have HQ_1 := Lib.hid (HL_1.out.reads rfl).1; have HV_1 := Lib.hid (Own.alloc (HO.out) (.cells #[.int .i64 (-2)] 3)); have HK_1 := Lib.hid (Own.blk (HO.out)); go_wp2_with (first | (at_builtin; refine wpList_app_g (k := 1) (c := intC) _ (by rfl) _ _ _ rfl 3 (.int .i64 0) 8 Try.underlying25 (by kernel_rfl) rfl (by decide) (by decide) intC_one _ _ _ rfl HV_1.out _ _ _ _ rfl HQ_1.out ?hm ?hlen ?hB ?_; (case hm => (first | rfl | (simp; done) | omega)); (case hlen => (simp only [List.length_cons, List.length_nil]; omega)); (case hB => ((try simp only [World.size_alloc, World.size_drew]); omega)); intro v_1 w_1 hown_1 hg_1 hat_1; have HW_1 : Hid (Below ((w.heap.size + 1)) (wr) w_1) := (Below.alloc (Below.refl _ _) (by first | exact Nat.le_refl _ | omega) _).grown hg_1 (by (try simp only [World.size_alloc]); omega) (fun q hq => (HK_1.out q hq).1); have HG_1 := Lib.hid hg_1; have HAT_1 := Lib.hid hat_1; have HO_1 := Lib.hid hown_1; obtain ⟨A_1, c_1, hv_1⟩ := hown_1.slice; simp only [List.length_append, List.length_cons, List.length_nil, Nat.zero_add] at hv_1; subst hv_1; have hz_1 := HG_1.out.size; (try simp only [World.size_alloc] at hz_1); clear hown_1 hg_1 hat_1 HL_1 HQ_1 HV_1))
        have HON : Hid (Own 1 intC 3 w_1 (w.heap.size + 1) (.slice A_1 (((par0 bs).take k).length + 1) c_1) ((par0 bs).take (k + 1))) := by unfold Hid; rw [HTK.out, if_neg hx]; exact HO_1.out
        have HON : Hid (Own 1 intC 3 w_1 (w.heap.size + 1) (.slice A_1 (min k (par0 bs).length + 1) c_1) ((par0 bs).take (k + 1))) := by have h := HON.out; rw [List.length_take] at h; exact h
        have HKN : Hid (Bk w_1 w.heap.size 30 #[.int .i64 (n : Int), .slice A m c]) := (HK.out.alloc _).grown HG_1.out (fun e => by have := (HK_1.out _ e.symm).1; omega)
        have HBN : Hid (Below w.heap.size w w_1) := HB.out.trans (HW_1.out.mono (by omega))
        exact ⟨⟨k + 1, by go_num, by omega, HON, HKN, HBN⟩, by simp [intOf]; omega⟩
    · obtain rfl : k = n := by omega
      have hres := HO.out.res
      have htl : (par0 bs).take k = par0 bs := by rw [← HP0.out, List.take_length]
      rw [htl] at hres
      obtain ⟨vA, vc, hv, hq⟩ := hres
      obtain ⟨g, hg, hgB⟩ : ∃ g, vA = some ⟨g, 0, none⟩ ∧ w.heap.size + 1 ≤ g := by
        rcases hq with h | ⟨g, _, _, hA, hB, _⟩
        · have := HP0.out; rw [h] at this; simp at this; omega
        · exact ⟨g, hA, hB⟩
      subst hg
      rw [HP0.out] at hv
      subst hv
      have HRS : Hid (Res 1 intC 3 wr (w.heap.size + 1) (.slice (some ⟨g, 0, none⟩) k vc) (prounds ls on (par0 bs) 0)) := by have h := HO.out.res; rw [htl] at h; exact h
      clear hq htl HO
      go_wp2_with fail
      go_loopw [9] (fun t wr => ∃ j : Nat, t = .int .i64 j ∧ j ≤ k ∧ Hid (Res 1 intC 3 wr (w.heap.size + 1) (.slice (some ⟨g, 0, none⟩) k vc) (prounds ls on (par0 bs) j)) ∧ Hid (Bk wr w.heap.size 30 #[.int .i64 (k : Int), .slice A m c]) ∧ Hid (Below w.heap.size w wr)) (fun t _ => k - (intOf t).toNat)
      case atStart => exact ⟨0, rfl, Nat.zero_le _, HRS, HK, HB⟩
      case round =>
        clear HRS HK HB cK zK
        obtain ⟨j, rfl, hj, HRS, HK, HB⟩ := hrel
        have cK := HK.out.cell; have zK := HK.out.lt
        by_cases hjk : j < k
        · have hj1 : (j : Int) < (k : Int) := by omega
          have hpl : (prounds ls on (par0 bs) j).length = k := by rw [prounds_len]; exact HP0.out
          have hnext : prounds ls on (par0 bs) (j + 1) = proundTo ls on (prounds ls on (par0 bs) j) m := by show proundTo ls on (prounds ls on (par0 bs) j) on.length = _; rw [HM.out]
          have hge := HG0.out j
          generalize prounds ls on (par0 bs) j = p at HRS hpl hnext hge
          have HNX := Lib.hid hnext; have HGE := Lib.hid hge; have HPL := Lib.hid hpl
          clear hnext hge hpl
          go_wp2_with fail
          go_loopw [10] (fun t wr => ∃ q : Nat, t = .int .i64 q ∧ q ≤ m ∧ Hid (Res 1 intC 3 wr (w.heap.size + 1) (.slice (some ⟨g, 0, none⟩) k vc) (proundTo ls on p q)) ∧ Hid (Bk wr w.heap.size 30 #[.int .i64 (k : Int), .slice A m c]) ∧ Hid (Below w.heap.size w wr)) (fun t _ => m - (intOf t).toNat)
          case atStart => exact ⟨0, rfl, Nat.zero_le _, HRS, HK, HB⟩
          case round =>
            clear HRS HK HB cK zK
            obtain ⟨q, rfl, hq, HRS, HK, HB⟩ := hrel
            have cK := HK.out.cell; have zK := HK.out.lt
            by_cases hqm : q < m
            · have hx : q < ls.length := by rw [HLL.out]; exact hqm
              have hy : q < on.length := by rw [HM.out]; exact hqm
              have hq1 : (q : Int) < (m : Int) := by omega
              have hBW : w.heap.size ≤ wr.heap.size := HB.out.size
              obtain ⟨lb, lo, rfl, hlb, hc0, hc1, hc2⟩ := HR.out.at3 hx
              have hc0 := (HB.out.cell (p := ⟨lb, lo + q * 3, none⟩) hlb).trans hc0
              have hc1 := (HB.out.cell (p := ⟨lb, lo + q * 3 + 1, none⟩) hlb).trans hc1
              have hc2 := (HB.out.cell (p := ⟨lb, lo + q * 3 + 2, none⟩) hlb).trans hc2
              obtain ⟨nb, no, rfl, hnb, hd⟩ := HR1.out.at1 hy
              have hd0 : wr.cell? ⟨nb, no + q, none⟩ = some (.bool on[q]) := (HB.out.cell (p := ⟨nb, no + q, none⟩) hnb).trans hd
              have hnbz : nb < wr.heap.size := by omega
              have hnbg : nb ≠ g := by omega
              have hgnb : g ≠ nb := by omega
              obtain ⟨l1, l2, l3, l4, l5⟩ := HF.out.1.1.line hx
              rw [l1] at hc0
              rw [l2] at hc1
              have hog : on.getD q false = on[q] := getD_lt hy false
              generalize on[q] = o at hd0 hog
              generalize ls[q].c = z2 at hc2
              have hnxt : proundTo ls on p (q + 1) = prelax ls on (proundTo ls on p q) q := rfl
              have hul : (proundTo ls on p q).length = k := by rw [proundTo_len]; exact HPL.out
              have hge := (proundTo_fed HF.out.ends HGE.out q).1
              generalize proundTo ls on p q = u at HRS hnxt hul hge
              have ha : lA ls q < k := by omega
              have hb : lB ls q < k := by omega
              have hab := l5
              have hon1 := fun (h : on.getD q false = true) => prelax_on (p := u) (a := lA ls q) (b := lB ls q) h rfl rfl l5
              generalize lA ls q = a at hc0 ha hab hon1
              generalize lB ls q = b at hc1 hb hab hon1
              have hba : b ≠ a := fun e => hab e.symm
              have ca := HRS.out.cellI (k := a) (by omega) (-2)
              have cb := HRS.out.cellI (k := b) (by omega) (-2)
              obtain ⟨fr, hgB', hgz, -⟩ := HRS.out.setI (k := a) (by omega) 0
              have hga := hge a; have hgb := hge b
              obtain ⟨pa, hpa⟩ : ∃ x, u.getD a (-2) = x := ⟨_, rfl⟩
              obtain ⟨pb, hpb⟩ : ∃ x, u.getD b (-2) = x := ⟨_, rfl⟩
              rw [hpa] at ca hon1 hga
              rw [hpb] at cb hon1 hgb
              rw [hog] at hon1
              have ha1 : (a : Int) < (k : Int) := by omega
              have hb1 : (b : Int) < (k : Int) := by omega
              have hgw : g ≠ w.heap.size := by omega
              have hwg : w.heap.size ≠ g := by omega
              have hlbg : lb ≠ g := by omega
              have hoff : o = false → prelax ls on u q = u := fun h => prelax_off (by rw [hog, h])
              have HNT := Lib.hid hnxt; have HO1 := Lib.hid hon1; have HOF := Lib.hid hoff; have HUL := Lib.hid hul
              clear hnxt hon1 hoff hog hpa hpb hd l1 l2 l3 l4 l5 hul hge
              have HKN : Hid (Bk (wr.alloc (.cells #[.int .i64 (a : Int), .int .i64 (b : Int), .int .i64 z2] 85)) w.heap.size 30 #[.int .i64 (k : Int), .slice (some ⟨lb, lo, none⟩) m c]) := HK.out.alloc _
              have HBN : Hid (Below w.heap.size w (wr.alloc (.cells #[.int .i64 (a : Int), .int .i64 (b : Int), .int .i64 z2] 85))) := HB.out.alloc HB.out.size _
              have HSAME : Hid (prelax ls on u q = u → Res 1 intC 3 (wr.alloc (.cells #[.int .i64 (a : Int), .int .i64 (b : Int), .int .i64 z2] 85)) (w.heap.size + 1) (.slice (some ⟨g, 0, none⟩) k vc) (proundTo ls on p (q + 1))) := fun h => by
                rw [HNT.out, h]; exact HRS.out.below (Below.alloc (Below.refl _ _) (Nat.le_refl _) _)
              have HSET : Hid (∀ i, i < k → prelax ls on u q = u.set i (q : Int) → (Res 1 intC 3 ((wr.setCell ⟨g, i, none⟩ (.int .i64 (q : Int))).alloc (.cells #[.int .i64 (a : Int), .int .i64 (b : Int), .int .i64 z2] 85)) (w.heap.size + 1) (.slice (some ⟨g, 0, none⟩) k vc) (proundTo ls on p (q + 1)) ∧ Bk ((wr.setCell ⟨g, i, none⟩ (.int .i64 (q : Int))).alloc (.cells #[.int .i64 (a : Int), .int .i64 (b : Int), .int .i64 z2] 85)) w.heap.size 30 #[.int .i64 (k : Int), .slice (some ⟨lb, lo, none⟩) m c] ∧ Below w.heap.size w ((wr.setCell ⟨g, i, none⟩ (.int .i64 (q : Int))).alloc (.cells #[.int .i64 (a : Int), .int .i64 (b : Int), .int .i64 z2] 85)))) := fun i hi h => by
                refine ⟨?_, ?_, ?_⟩
                · rw [HNT.out, h]
                  exact (HRS.out.setI (by rw [HUL.out]; exact hi) (q : Int)).2.2.2.below (Below.alloc (Below.refl _ _) (Nat.le_refl _) _)
                · exact (HK.out.far (p := ⟨g, i, none⟩) hwg _).alloc _
                · exact (HB.out.setCell (p := ⟨g, i, none⟩) (by show w.heap.size ≤ g; omega) _).alloc (by rw [World.size_setCell]; exact HB.out.size) _
              cases o with
              | false =>
                have HE := Lib.hid (HSAME.out (HOF.out rfl))
                clear HSET HSAME
                go_wp2_with fail
                exact ⟨⟨q + 1, by go_num, by omega, HE, HKN, HBN⟩, by simp [intOf]; omega⟩
              | true =>
                have hq2 : (-2 : Int) < (q : Int) := by omega
                by_cases h1 : (-2 : Int) < pa
                · have hane : (pa == (-2 : Int)) = false := by simp; omega
                  by_cases h2 : pb = -2
                  · have HE := Lib.hid (HSET.out b hb (by rw [HO1.out rfl, if_pos ⟨h1, h2⟩]))
                    have hbe : (pb == (-2 : Int)) = true := by simp [h2]
                    clear HSET HSAME h2
                    go_wp2_with fail
                    exact ⟨⟨q + 1, by go_num, by omega, HE.out.1, HE.out.2.1, HE.out.2.2⟩, by simp [intOf]; omega⟩
                  · have HE := Lib.hid (HSAME.out (by rw [HO1.out rfl, if_neg (fun h => h2 h.2), if_neg (fun h => by have := h.2; omega)]))
                    have hbe : (pb == (-2 : Int)) = false := by simp [h2]
                    have hb3 : (-2 : Int) < pb := by omega
                    clear HSET HSAME h2
                    go_wp2_with fail
                    exact ⟨⟨q + 1, by go_num, by omega, HE, HKN, HBN⟩, by simp [intOf]; omega⟩
                · have hpa2 : pa = -2 := by omega
                  have hane : (pa == (-2 : Int)) = true := by simp [hpa2]
                  by_cases h2 : (-2 : Int) < pb
                  · have HE := Lib.hid (HSET.out a ha (by rw [HO1.out rfl, if_neg (fun h => h1 h.1), if_pos ⟨h2, hpa2⟩]))
                    clear HSET HSAME hpa2
                    go_wp2_with fail
                    exact ⟨⟨q + 1, by go_num, by omega, HE.out.1, HE.out.2.1, HE.out.2.2⟩, by simp [intOf]; omega⟩
                  · have HE := Lib.hid (HSAME.out (by rw [HO1.out rfl, if_neg (fun h => h1 h.1), if_neg (fun h => h2 h.1)]))
                    clear HSET HSAME hpa2
                    go_wp2_with fail
                    exact ⟨⟨q + 1, by go_num, by omega, HE, HKN, HBN⟩, by simp [intOf]; omega⟩
            · obtain rfl : q = m := by omega
              have HE : Hid (Res 1 intC 3 wr (w.heap.size + 1) (.slice (some ⟨g, 0, none⟩) k vc) (prounds ls on (par0 bs) (j + 1))) := by unfold Hid; rw [HNX.out]; exact HRS.out
              go_wp2_with fail
              exact ⟨⟨j + 1, by go_num, by omega, HE, HK, HB⟩, by simp [intOf]; omega⟩
        · obtain rfl : j = k := by omega
          have hres := HRS.out
          rw [← HPE.out] at hres
          have HX := Lib.hid hres; clear hres
          go_wp2_with fail
          go_ret
          exact ⟨_, rfl, Res.mono HX.out (show w.heap.size ≤ w.heap.size + 1 by omega), HB.out⟩
end Go.Proofs.Ytdfgdeccejcpfaa
