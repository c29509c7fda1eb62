/- The law FnShedSum: its walk. -/
import Derived.Test.YtecekhjlapaofaaDoorShS
namespace Go.Proofs.YtecekhjlapaofaaDoor
open Go.RowKit Go.Deep
set_option linter.unusedSimpArgs false
set_option linter.unusedVariables false
theorem implShedSum_n (A B : Option Addr) (n m c d : Nat) (xs : List R2) (ys : List Int) (w : World) (hn : xs.length = n) (hm : ys.length = m) (hR : Reads 2 r2C w w.heap.size A xs) (hS : Reads 1 intC w w.heap.size B ys) (hg : ∀ y ∈ ys, I64 y) (hl : n ≤ 1048576) (hl2 : m ≤ 1048576) :
    Calls Tryd.prog 14 #[.slice A n c, .slice B m d] w fun e w' => e = .returned (.int .i64 (shedSum xs ys)) ∧ Below w.heap.size w w' := by
  subst hn hm; exact implShedSum_any A B c d xs ys w hR hS hg hl hl2
theorem specShedSum_n (A B : Option Addr) (n m c d : Nat) (xs : List R2) (ys : List Int) (w : World) (hn : xs.length = n) (hm : ys.length = m) (hR : Reads 2 r2C w w.heap.size A xs) (hS : Reads 1 intC w w.heap.size B ys) (hg : ∀ y ∈ ys, I64 y) (hl : n ≤ 1048576) (hl2 : m ≤ 1048576) :
    Calls Tryd.prog 30 #[.slice A n c, .slice B m d] w fun e w' => e = .returned (.int .i64 (shedSum xs ys)) ∧ Below w.heap.size w w' := by
  subst hn hm; exact specShedSum_any A B c d xs ys w hR hS hg hl hl2
theorem shedSum_cases (xs : List R2) (ys : List Int) : shedSum xs ys = -1 ∨ 0 ≤ shedSum xs ys := by
  unfold shedSum
  split
  · rename_i hB
    cases hv : shSum xs (-1) 0 ys with
    | none => left; rfl
    | some v =>
      right
      obtain ⟨h1, h2⟩ := shSum_asc hv
      have hy := asc_eq h1 h2
      have k1 := sh_pred xs (fun (k : Nat) => decide ((k : Int) ∈ ys)) xs.length 0 (-1) 0 (by omega) (by omega)
      rw [← hy, hv] at k1
      injection k1 with k1
      have := tailP_bd hB (fun (k : Nat) => decide ((k : Int) ∈ ys)) xs.length 0 (by omega)
      simp only [Option.getD_some]; omega
  · left; rfl
theorem restL_len (ys : List Int) (n : Nat) : (restL ys n).length ≤ n := by unfold restL; rw [List.length_map]; exact Nat.le_trans (List.length_filter_le _ _) (by simp)
@[simp] theorem allL_len (n : Nat) : (allL n).length = n := by unfold allL; simp
theorem restL_I64 (ys : List Int) {n : Nat} (hn : n ≤ 100) : ∀ y ∈ restL ys n, I64 y := by
  intro y hy; unfold restL at hy; simp only [List.mem_map, List.mem_filter, List.mem_range] at hy; obtain ⟨k, ⟨hk, _⟩, rfl⟩ := hy; unfold I64; omega
theorem allL_I64 {n : Nat} (hn : n ≤ 100) : ∀ y ∈ allL n, I64 y := by
  intro y hy; unfold allL at hy; simp only [List.mem_map, List.mem_range] at hy; obtain ⟨k, hk, rfl⟩ := hy; unfold I64; omega

set_option maxRecDepth 100000 in
set_option maxHeartbeats 8000000 in
theorem fnShedSum_any (A : Option Addr) (n c : Nat) (bs : List Int) (w : World) (hn : bs.length = n) (hb : ∀ x ∈ bs, U8 x) (hc : n ≤ c) (hcm : c ≤ maxLen) (hR : Reads 1 byteC w w.heap.size A bs) :
    Calls Tryd.prog 7 #[.slice A n c] w fun e w' => e = .returned (.bool true) ∧ Below w.heap.size w w' := by
  unfold maxLen at hcm
  subst hn
  have HR := Lib.hid hR; clear hR
  have HB := Lib.hid hb; clear hb
  have HB_w : Hid (Below w.heap.size w w) := Below.refl _ _
  have hbb : ∀ x : Bool, (x != x) = false := fun x => by simp
  have hnn : ∀ x : Int, (x != x) = false := fun x => by simp
  by_cases hl : ¬ bs.length ≤ 1048576
  · have hl' : (1048576 : Int) < bs.length := by omega
    go_enter Tryd.func7, Tryd.ntmps7
    go_wp2_with fail
    go_ret
    exact ⟨rfl, Below.refl _ _⟩
  have hl : bs.length ≤ 1048576 := by omega
  have hl' : ¬ (1048576 : Int) < bs.length := by omega
  go_enter Tryd.func7, Tryd.ntmps7
  go_wp2_with fail; ((with_reducible refine (drawShedSum_any A c bs w HR.out HB.out hl hc hcm).mono ?_); rintro e w1 ⟨v, u, xs, ys, rfl, hx9, hy10, hys, hd, he, hb_w1⟩); have HB_w1 : Hid (Below w.heap.size w w1) := HB_w.out.trans (hb_w1.mono HB_w.out.size); clear hb_w1
  have HD0 := Lib.hid hd; have HE0 := Lib.hid he
  obtain ⟨A1, cp1, rfl, hcap1, hcap2, _⟩ := hd
  obtain ⟨A2, cp2, rfl, hcap3, hcap4, _⟩ := he
  have HI : Hid (∀ y ∈ ys, I64 y) := fun y hy => by have := hys y hy; unfold I64; omega
  clear hys
  generalize hnx : xs.length = n at hx9 hcap1
  have HN := Lib.hid hnx; clear hnx
  generalize hny : ys.length = m at hy10 hcap3
  have HM := Lib.hid hny; clear hny
  have HD_w1 : Hid (DrS 2 r2C w1 w.heap.size (.slice A1 n cp1) xs) := by have h := HD0.out; rw [HN.out] at h; exact h
  have HE_w1 : Hid (DrS 1 intC w1 w.heap.size (.slice A2 m cp2) ys) := by have h := HE0.out; rw [HM.out] at h; exact h
  clear HD0 HE0
  have hn1 : n ≤ 1048576 := by omega
  have hm1 : m ≤ 1048576 := by omega
  go_wp2_with fail; ((with_reducible refine (implShedSum_n A1 A2 n m cp1 cp2 xs ys w1 HN.out HM.out HD_w1.out.reads.1 HE_w1.out.reads.1 HI.out hn1 hm1).mono ?_); rintro e w2 ⟨rfl, hb_w2⟩); have HB_w2 : Hid (Below w.heap.size w w2) := HB_w1.out.trans (hb_w2.mono HB_w1.out.size); have HD_w2 := Lib.hid (HD_w1.out.below hb_w2); have HE_w2 := Lib.hid (HE_w1.out.below hb_w2); clear hb_w2
  go_wp2_with fail; ((with_reducible refine (specShedSum_n A1 A2 n m cp1 cp2 xs ys w2 HN.out HM.out HD_w2.out.reads.1 HE_w2.out.reads.1 HI.out hn1 hm1).mono ?_); rintro e w3 ⟨rfl, hb_w3⟩); have HB_w3 : Hid (Below w.heap.size w w3) := HB_w2.out.trans (hb_w3.mono HB_w2.out.size); have HD_w3 := Lib.hid (HD_w2.out.below hb_w3); have HE_w3 := Lib.hid (HE_w2.out.below hb_w3); clear hb_w3
  rcases shedSum_cases xs ys with hneg | hpos
  · rw [hneg]
    go_wp2_with fail; ((with_reducible refine (alive_any w3).mono ?_); rintro e w4 ⟨rfl, hb_w4⟩); have HB_w4 : Hid (Below w.heap.size w w4) := HB_w3.out.trans (hb_w4.mono HB_w3.out.size); clear hb_w4
    go_wp2_with fail
    go_ret
    exact ⟨rfl, HB_w4.out⟩
  · obtain ⟨hs0, hs1, hr0, hr1, hsum⟩ := shed_law hpos
    rw [HN.out] at hr0 hr1 hsum
    generalize hS : shedSum xs ys = S at *
    clear hS hpos
    obtain ⟨R, hRR⟩ : ∃ R, shedSum xs (restL ys n) = R := ⟨_, rfl⟩
    obtain ⟨T, hTT⟩ : ∃ T, shedSum xs (allL n) = T := ⟨_, rfl⟩
    rw [hRR] at hr0 hr1 hsum
    rw [hTT] at hsum
    have HRT := Lib.hid (And.intro hRR hTT); clear hRR hTT
    have HO1 : Hid (Own 1 intC 3 ((w3.alloc (.cells #[] 3)).alloc (.cells #[] 3)) w3.heap.size (.slice (some ⟨w3.heap.size, 0, none⟩) 0 0) []) := by
      unfold Hid
      exact (Own.lit (k := 1) (c := intC) (B := w3.heap.size) w3 3 #[] 0 [] (Nat.le_refl _) rfl (by omega) rfl).alloc _
    have HO2 : Hid (Own 1 intC 3 ((w3.alloc (.cells #[] 3)).alloc (.cells #[] 3)) w3.heap.size (.slice (some ⟨w3.heap.size + 1, 0, none⟩) 0 0) []) := by
      unfold Hid
      have h := Own.lit (k := 1) (c := intC) (B := w3.heap.size) (w3.alloc (.cells #[] 3)) 3 #[] 0 [] (by simp) rfl (by omega) rfl
      simpa using h
    have HB0 : Hid (Below w3.heap.size w3 ((w3.alloc (.cells #[] 3)).alloc (.cells #[] 3))) := by unfold Hid; (repeat' (first | (with_reducible exact Below.refl _ _) | (with_reducible refine Below.alloc ?_ ?_ _) | (with_reducible refine Below.setCell ?_ ?_ _) | (with_reducible refine Below.drew ?_) | (refine Below.trans ?_ (Below.mono (by with_reducible assumption) ?_)) | go_size))
    have HNE : Hid (∀ b, (Value.slice (some ⟨w3.heap.size, 0, none⟩) 0 0).ownBlock = some b → (Value.slice (some ⟨w3.heap.size + 1, 0, none⟩) 0 0).ownBlock ≠ some b) := by
      intro b h1 h2
      simp [Value.ownBlock] at h1 h2
      omega
    go_wp2_with fail
    go_loopw [6, 7, 8] (fun t6 t7 t8 wr => ∃ i : Nat, t8 = .int .i64 i ∧ i ≤ n ∧ Hid (Own 1 intC 3 wr w3.heap.size t6 (restL ys i)) ∧ Hid (Own 1 intC 3 wr w3.heap.size t7 (allL i)) ∧ Hid (∀ b, t6.ownBlock = some b → t7.ownBlock ≠ some b) ∧ Hid (Below w3.heap.size w3 wr)) (fun _ _ t8 _ => n - (intOf t8).toNat)
    case atStart => exact ⟨0, rfl, Nat.zero_le _, HO1, HO2, HNE, HB0⟩
    case round =>
      obtain ⟨i, rfl, hi, HR6, HA7, HNE2, HBr⟩ := hrel
      clear HO1 HO2 HNE HB0
      have hzr := HBr.out.size
      obtain ⟨rA, rc, hrv⟩ := HR6.out.slice
      obtain ⟨aA, ac, hav⟩ := HA7.out.slice
      have hrl := restL_len ys i
      have hal : (allL i).length ≤ 9 := by simp; omega
      have HRL := Lib.hid hrl; clear hrl
      generalize hq1 : (restL ys i).length = lr at hrv
      have HLR := Lib.hid hq1; clear hq1
      rw [allL_len] at hav
      subst hrv hav
      by_cases hlt : i < n
      · have HL_7 := Lib.hid (Own.lit (k := 1) (c := intC) (B := w3.heap.size) wr 3 #[.int .i64 i] 1 [(i : Int)] (by first | exact Nat.le_refl _ | omega) rfl (by omega) rfl); have HQ_7 := Lib.hid (HL_7.out.reads rfl).1; have HV_7 := Lib.hid (Own.alloc (HA7.out) (.cells #[.int .i64 i] 3)); have HK_7 := Lib.hid (Own.blk (HA7.out)); go_wp2_with (first | (at_builtin; refine wpList_app_g (k := 1) (c := intC) _ (by rfl) _ _ _ rfl 3 (.int .i64 0) 8 Tryd.underlying26 (by kernel_rfl) rfl (by decide) (by decide) intC_one _ _ _ rfl HV_7.out _ _ _ _ rfl HQ_7.out ?hm ?hlen ?hB ?_; (case hm => (first | rfl | (simp; done) | omega)); (case hlen => (simp only [List.length_cons, List.length_nil]; omega)); (case hB => ((try simp only [World.size_alloc, World.size_drew]); omega)); intro v_7 w_7 hown_7 hg_7 hat_7; have HW_7 : Hid (Below (w3.heap.size) (wr) w_7) := (Below.alloc (Below.refl _ _) (by first | exact Nat.le_refl _ | omega) _).grown hg_7 (by (try simp only [World.size_alloc]); omega) (fun q hq => (HK_7.out q hq).1); have HG_7 := Lib.hid hg_7; have HAT_7 := Lib.hid hat_7; have HO_7 := Lib.hid hown_7; obtain ⟨A_7, c_7, hv_7⟩ := hown_7.slice; simp only [List.length_append, List.length_cons, List.length_nil, Nat.zero_add] at hv_7; subst hv_7; have hz_7 := HG_7.out.size; (try simp only [World.size_alloc] at hz_7); clear hown_7 hg_7 hat_7 HL_7 HQ_7 HV_7))
        have HBx : Hid (Below w3.heap.size w3 w_7) := HBr.out.trans HW_7.out
        have HRx : Hid (Own 1 intC 3 w_7 w3.heap.size (.slice rA lr rc) (restL ys i)) := by
          have h := HR6.out.alloc (.cells #[.int .i64 i] 3)
          refine h.keep_at HG_7.out.size HG_7.out.os HG_7.out.tape HG_7.out.output fun b hb => HG_7.out.block b (h.blk b hb).2 (fun e => HNE2.out b hb e.symm)
        have HNx : Hid (∀ b, (Value.slice rA lr rc).ownBlock = some b → (Value.slice A_7 ((allL i).length + 1) c_7).ownBlock ≠ some b) := by
          intro b h1 h2
          have hlt := (HR6.out.blk b h1).2
          rcases HAT_7.out with h | h
          · rw [h] at h2; exact HNE2.out b h1 h2
          · rw [h] at h2; injection h2 with h2; simp at h2; omega
        have HEx := Lib.hid ((HE_w3.out.below HBx.out).reads.1)
        have HAx : Hid (Own 1 intC 3 w_7 w3.heap.size (.slice A_7 ((allL i).length + 1) c_7) (allL (i + 1))) := by
          unfold Hid; rw [allL_succ]; exact HO_7.out
        rw [allL_len] at HAx HNx
        have hz7 := HBx.out.size
        refine (hasInt_any A2 m cp2 ys i w_7 HM.out HEx.out hm1).mono ?_
        rintro e w4 ⟨rfl, rfl⟩
        by_cases hin : (i : Int) ∈ ys
        · have hdc : decide ((i : Int) ∈ ys) = true := decide_eq_true hin
          have HRy : Hid (Own 1 intC 3 w_7 w3.heap.size (.slice rA lr rc) (restL ys (i + 1))) := by
            unfold Hid; rw [restL_succ, if_pos hin, List.append_nil]; exact HRx.out
          rw [hdc]
          clear hin hdc
          go_wp2_with fail
          exact ⟨⟨i + 1, by go_num, by omega, HRy, HAx, HNx, HBx⟩, by simp [intOf]; omega⟩
        · have hdc : decide ((i : Int) ∈ ys) = false := decide_eq_false hin
          rw [hdc]
          have hrl2 : (restL ys i).length ≤ 9 := by have := HRL.out; omega
          have HIN := Lib.hid hin
          clear hin hdc
          have HL_8 := Lib.hid (Own.lit (k := 1) (c := intC) (B := w3.heap.size) w_7 3 #[.int .i64 i] 1 [(i : Int)] (by first | exact Nat.le_refl _ | omega) rfl (by omega) rfl); have HQ_8 := Lib.hid (HL_8.out.reads rfl).1; have HV_8 := Lib.hid (Own.alloc (HRx.out) (.cells #[.int .i64 i] 3)); have HK_8 := Lib.hid (Own.blk (HRx.out)); go_wp2_with (first | (at_builtin; refine wpList_app_g (k := 1) (c := intC) _ (by rfl) _ _ _ rfl 3 (.int .i64 0) 8 Tryd.underlying26 (by kernel_rfl) rfl (by decide) (by decide) intC_one _ _ _ rfl HV_8.out _ _ _ _ rfl HQ_8.out ?hm ?hlen ?hB ?_; (case hm => (first | rfl | (simp; done) | omega)); (case hlen => (simp only [List.length_cons, List.length_nil]; omega)); (case hB => ((try simp only [World.size_alloc, World.size_drew]); omega)); intro v_8 w_8 hown_8 hg_8 hat_8; have HW_8 : Hid (Below (w3.heap.size) (w_7) w_8) := (Below.alloc (Below.refl _ _) (by first | exact Nat.le_refl _ | omega) _).grown hg_8 (by (try simp only [World.size_alloc]); omega) (fun q hq => (HK_8.out q hq).1); have HG_8 := Lib.hid hg_8; have HAT_8 := Lib.hid hat_8; have HO_8 := Lib.hid hown_8; obtain ⟨A_8, c_8, hv_8⟩ := hown_8.slice; simp only [List.length_append, List.length_cons, List.length_nil, Nat.zero_add] at hv_8; subst hv_8; have hz_8 := HG_8.out.size; (try simp only [World.size_alloc] at hz_8); clear hown_8 hg_8 hat_8 HL_8 HQ_8 HV_8))
          have HBy : Hid (Below w3.heap.size w3 w_8) := HBx.out.trans HW_8.out
          have HRy : Hid (Own 1 intC 3 w_8 w3.heap.size (.slice A_8 ((restL ys i).length + 1) c_8) (restL ys (i + 1))) := by
            unfold Hid; rw [restL_succ, if_neg HIN.out]; exact HO_8.out
          have HAy : Hid (Own 1 intC 3 w_8 w3.heap.size (.slice A_7 (i + 1) c_7) (allL (i + 1))) := by
            have h := HAx.out.alloc (.cells #[.int .i64 i] 3)
            exact h.keep_at HG_8.out.size HG_8.out.os HG_8.out.tape HG_8.out.output fun b hb => HG_8.out.block b (h.blk b hb).2 (fun e => HNx.out b e.symm hb)
          have HNy : Hid (∀ b, (Value.slice A_8 ((restL ys i).length + 1) c_8).ownBlock = some b → (Value.slice A_7 (i + 1) c_7).ownBlock ≠ some b) := by
            intro b h1 h2
            have hlt := (HAx.out.blk b h2).2
            rcases HAT_8.out with h | h
            · rw [h] at h1; exact HNx.out b h1 h2
            · rw [h] at h1; injection h1 with h1; simp at h1; omega
          exact ⟨⟨i + 1, by go_num, by omega, HRy, HAy, HNy, HBy⟩, by simp [intOf]; omega⟩
      · obtain rfl : i = n := by omega
        have HDx := Lib.hid (HD_w3.out.below HBr.out)
        have hrl2 : lr ≤ 1048576 := by have := HRL.out; have := HLR.out; omega
        go_wp2_with fail
        refine (implShedSum_n A1 rA i lr cp1 rc xs (restL ys i) wr HN.out HLR.out HDx.out.reads.1 (HR6.out.reads rfl).1 (restL_I64 ys (by omega)) hn1 hrl2).mono ?_
        rintro e w5 ⟨rfl, hb5⟩
        rw [HRT.out.1]
        have HD5 := Lib.hid (HDx.out.below hb5)
        have HA5 := Lib.hid (HA7.out.keep hb5)
        have HB5 : Hid (Below w3.heap.size w3 w5) := HBr.out.trans (hb5.mono HBr.out.size)
        clear hb5
        go_wp2_with fail
        refine (implShedSum_n A1 aA i i cp1 ac xs (allL i) w5 HN.out (by simp) HD5.out.reads.1 (HA5.out.reads rfl).1 (allL_I64 (by omega)) hn1 hn1).mono ?_
        rintro e w6 ⟨rfl, hb6⟩
        rw [HRT.out.2]
        have HB6 : Hid (Below w3.heap.size w3 w6) := HB5.out.trans (hb6.mono HB5.out.size)
        clear hb6
        go_wp2_with fail
        all_goals try (exfalso; omega; done)
        go_ret
        refine ⟨?_, HB_w3.out.trans (HB6.out.mono HB_w3.out.size)⟩
        first | rfl | (have hSRT : S + R = T := hsum; simp [hSRT])
end Go.Proofs.YtecekhjlapaofaaDoor
