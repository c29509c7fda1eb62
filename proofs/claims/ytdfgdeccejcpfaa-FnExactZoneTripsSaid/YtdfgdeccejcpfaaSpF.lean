/- The reference: who is alive. -/
import Derived.Test.YtdfgdeccejcpfaaSpE
namespace Go.Proofs.Ytdfgdeccejcpfaa
open Go.RowKit Go.Deep
set_option linter.unusedSimpArgs false
set_option linter.unusedVariables false

set_option maxRecDepth 100000 in
set_option maxHeartbeats 8000000 in
theorem specAlive_any (n : Nat) (A A1 A2 : Option Addr) (c c1 c2 : Nat) (ls : List R3) (on : List Bool) (bs : List R2) (w : World) (hf : FedP n ls on bs) (hR : Reads 3 r3C w w.heap.size A ls) (hR1 : Reads 1 boolC w w.heap.size A1 on) (hR2 : Reads 2 r2C w w.heap.size A2 bs) :
    Calls Try.prog 45 #[.agg #[.int .i64 (n : Int), .slice A ls.length c], .slice A1 on.length c1, .slice A2 bs.length c2] w (RetS 1 intC 3 w (idxL (fun k => pB (aliveP ls on bs k)) n)) := by
  have HRD : Hid (∀ W, Below w.heap.size w W → Reads 3 r3C W W.heap.size A ls ∧ Reads 1 boolC W W.heap.size A1 on ∧ Reads 2 r2C W W.heap.size A2 bs) := fun W h => ⟨(hR.below h (Nat.le_refl _)).more h.size, (hR1.below h (Nat.le_refl _)).more h.size, (hR2.below h (Nat.le_refl _)).more h.size⟩
  clear hR hR1 hR2
  have hlens := hf.lens
  obtain ⟨hb8, hb1, hm10, hle, hBn⟩ := hlens
  have hfv := fedV_t.2 hf
  have HF := Lib.hid hf
  have hnb : bs.length = n := by omega
  have HNB := Lib.hid hnb
  have HOKC : Hid (∀ W, Below w.heap.size w W → Calls Try.prog 65 #[.agg #[.int .i64 (n : Int), .slice A ls.length c], .slice A1 on.length c1, .slice A2 bs.length c2] W fun e w' => e = .returned (.bool true) ∧ Below W.heap.size W w') := fun W h => by
    have q := l5Ok_any n A A1 A2 c c1 c2 ls on bs W (HRD.out _ h).1 (HRD.out _ h).2.2 (by omega) (by omega) (by omega)
    rw [hfv] at q; exact q
  have HFC : Hid (∀ W k, Below w.heap.size w W → k < n → Calls Try.prog 68 #[.agg #[.int .i64 (n : Int), .slice A ls.length c], .slice A1 on.length c1, .slice A2 bs.length c2, .int .i64 ((k : Nat) : Int)] W fun e w' => e = .returned (.int .i64 (islF ls on bs k)) ∧ Below W.heap.size W w') := fun W k h hk => by
    have q := islandFeed_any n A A1 A2 c c1 c2 ls on bs k W HF.out hk (HRD.out _ h).1 (HRD.out _ h).2.1 (HRD.out _ h).2.2
    have e : islF ls on bs k = sumN (fun j => feedAt bs j * f01 (Cn ls on k j)) n := by unfold islF; rw [hnb]
    rw [e]; with_reducible exact q
  have HPO : Hid (∀ k, 0 < islF ls on bs k ↔ aliveP ls on bs k) := fun k => islF_pos HF.out
  generalize hpp : (fun k => pB (aliveP ls on bs k)) = p
  have HPP := Lib.hid hpp; clear hpp
  clear hf hfv hle hnb
  go_enter Try.func45, Try.ntmps45
  have HK0 : Hid (Bk ((w.alloc (.cells #[.int .i64 (n : Int), .slice A ls.length c] 30)).alloc (.cells #[] 3)) w.heap.size 30 #[.int .i64 (n : Int), .slice A ls.length c]) := (Bk.new _ _ _).alloc _
  have HO0 : Hid (Own 1 intC 3 ((w.alloc (.cells #[.int .i64 (n : Int), .slice A ls.length c] 30)).alloc (.cells #[] 3)) (w.heap.size + 1) (.slice (some ⟨w.heap.size + 1, 0, none⟩) 0 0) ([] : List Int)) := by
    have h := Own.lit (k := 1) (c := intC) (B := w.heap.size + 1) (w.alloc (.cells #[.int .i64 (n : Int), .slice A ls.length c] 30)) 3 #[] 0 [] (by simp) rfl (by omega) rfl
    simp only [World.size_alloc] at h
    exact h
  have HB0 : Hid (Below w.heap.size w ((w.alloc (.cells #[.int .i64 (n : Int), .slice A ls.length c] 30)).alloc (.cells #[] 3))) := by unfold Hid; (repeat' (first | (with_reducible exact Below.refl _ _) | (with_reducible refine Below.alloc ?_ ?_ _) | (with_reducible refine Below.setCell ?_ ?_ _) | (with_reducible refine Below.drew ?_) | (refine Below.trans ?_ (Below.mono (by with_reducible assumption) ?_)) | go_size))
  go_wp2_with fail
  go_loopw [7, 8] (fun t7 t8 wr => ∃ k : Nat, t8 = .int .i64 k ∧ k ≤ n ∧ Hid (Own 1 intC 3 wr (w.heap.size + 1) t7 (idxL p k)) ∧ Hid (Bk wr w.heap.size 30 #[.int .i64 (n : Int), .slice A ls.length c]) ∧ Hid (Below w.heap.size w wr)) (fun _ t8 _ => n - (intOf t8).toNat)
  case atStart => exact ⟨0, rfl, Nat.zero_le _, HO0, HK0, HB0⟩
  case round =>
    obtain ⟨k, rfl, hk, HO, HK, HB⟩ := hrel
    clear HO0 HK0 HB0
    have cK := HK.out.cell; have zK := HK.out.lt
    by_cases hlt : k < n
    · have hk1 : (k : Int) < (n : Int) := by omega
      go_wp2_with fail
      with_reducible refine (HOKC.out wr HB.out).mono ?_
      rintro e w1 ⟨rfl, hb1⟩
      have HO1 := Lib.hid (HO.out.keep hb1); have HK1 := Lib.hid (HK.out.keep hb1)
      have HB1 : Hid (Below w.heap.size w w1) := HB.out.trans (hb1.mono HB.out.size)
      clear hb1 HO HK HB cK zK
      have cK := HK1.out.cell; have zK := HK1.out.lt
      go_wp2_with fail
      with_reducible refine (HFC.out w1 k HB1.out hlt).mono ?_
      rintro e w2 ⟨rfl, hb2⟩
      have HO2 := Lib.hid (HO1.out.keep hb2); have HK2 := Lib.hid (HK1.out.keep hb2)
      have HB2 : Hid (Below w.heap.size w w2) := HB1.out.trans (hb2.mono HB1.out.size)
      clear hb2 HO1 HK1 HB1 cK zK
      have hpo := HPO.out k
      have hpk : p k = pB (aliveP ls on bs k) := by rw [← HPP.out]
      generalize islF ls on bs k = z at hpo ⊢
      have HPK := Lib.hid hpk; have HPQ := Lib.hid hpo
      clear hpk hpo
      by_cases hz : (0 : Int) < z
      · have HT : Hid (p k = true) := HPK.out.trans (pB_true (HPQ.out.1 hz))
        obtain ⟨vA, vc, hv⟩ := HO2.out.slice
        have hil := idxL_len p k
        subst hv
        have hzw : w.heap.size + 1 ≤ w2.heap.size := by have := HK2.out.lt; omega
        have HL_1 := Lib.hid (Own.lit (k := 1) (c := intC) (B := (w.heap.size + 1)) w2 3 #[.int .i64 k] 1 [(k : Int)] (by first | exact Nat.le_refl _ | omega) rfl (by omega) rfl); have HQ_1 := Lib.hid (HL_1.out.reads rfl).1; have HV_1 := Lib.hid (Own.alloc (HO2.out) (.cells #[.int .i64 k] 3)); have HK_1 := Lib.hid (Own.blk (HO2.out)); go_wp2_with (first | (at_builtin; refine wpList_app_g (k := 1) (c := intC) _ (by rfl) _ _ _ rfl 3 (.int .i64 0) 8 Try.underlying25 (by kernel_rfl) rfl (by decide) (by decide) intC_one _ _ _ rfl HV_1.out _ _ _ _ rfl HQ_1.out ?hm ?hlen ?hB ?_; (case hm => (first | rfl | (simp; done) | omega)); (case hlen => (simp only [List.length_cons, List.length_nil]; omega)); (case hB => ((try simp only [World.size_alloc, World.size_drew]); omega)); intro v_1 w_1 hown_1 hg_1 hat_1; have HW_1 : Hid (Below ((w.heap.size + 1)) (w2) w_1) := (Below.alloc (Below.refl _ _) (by first | exact Nat.le_refl _ | omega) _).grown hg_1 (by (try simp only [World.size_alloc]); omega) (fun q hq => (HK_1.out q hq).1); have HG_1 := Lib.hid hg_1; have HAT_1 := Lib.hid hat_1; have HO_1 := Lib.hid hown_1; obtain ⟨A_1, c_1, hv_1⟩ := hown_1.slice; simp only [List.length_append, List.length_cons, List.length_nil, Nat.zero_add] at hv_1; subst hv_1; have hz_1 := HG_1.out.size; (try simp only [World.size_alloc] at hz_1); clear hown_1 hg_1 hat_1 HL_1 HQ_1 HV_1))
        have HON : Hid (Own 1 intC 3 w_1 (w.heap.size + 1) (.slice A_1 ((idxL p k).length + 1) c_1) (idxL p (k + 1))) := by unfold Hid; rw [idxL_succ, HT.out]; exact HO_1.out
        have HKN : Hid (Bk w_1 w.heap.size 30 #[.int .i64 (n : Int), .slice A ls.length c]) := (HK2.out.alloc _).grown HG_1.out (fun e => by have := (HK_1.out _ e.symm).1; omega)
        have HBN : Hid (Below w.heap.size w w_1) := HB2.out.trans (HW_1.out.mono (by omega))
        exact ⟨⟨k + 1, by go_num, by omega, HON, HKN, HBN⟩, by simp [intOf]; omega⟩
      · have HF : Hid (idxL p k = idxL p (k + 1)) := by
          unfold Hid; rw [idxL_succ, HPK.out, pB_false (fun h => hz (HPQ.out.2 h))]; simp
        go_wp2_with fail
        exact ⟨⟨k + 1, by go_num, by omega, by have h := HO2.out; rw [HF.out] at h; exact h, HK2, HB2⟩, by simp [intOf]; omega⟩
    · obtain rfl : k = n := by omega
      have hres := HO.out.res
      rw [← HPP.out] at hres
      have HX := Lib.hid hres; clear hres
      obtain ⟨vA, vc, hv⟩ := HO.out.slice
      subst hv
      go_wp2_with fail
      go_ret
      have hx := HX.out
      rw [HPP.out] at hx
      first
        | exact ⟨_, rfl, Res.mono hx (show w.heap.size ≤ w.heap.size + 1 by omega), HB.out⟩
        | exact ⟨_, rfl, Res.mono HX.out (show w.heap.size ≤ w.heap.size + 1 by omega), HB.out⟩
end Go.Proofs.Ytdfgdeccejcpfaa
