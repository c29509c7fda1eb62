/- The law FnBlocksValid: its walk. -/
import Derived.Test.YtecekhjlapaofaaDoorDrBlk
import Derived.Test.YtecekhjlapaofaaDoorAlive
import Derived.Test.YtecekhjlapaofaaDoorBlkA
namespace Go.Proofs.YtecekhjlapaofaaDoor
open Go.RowKit Go.Deep
set_option linter.unusedSimpArgs false
set_option linter.unusedVariables false

/-- Blocks were drawn, and nothing old has turned. -/
def DrawnB0 (w : World) (e : Ending) (w' : World) : Prop := ∃ v xs, e = .returned v ∧ xs.length ≤ 9 ∧ (∀ x ∈ xs, SmB x) ∧ DrS 2 r2C w' w.heap.size v xs ∧ Below w.heap.size w w'
theorem drawBlocksValid_any (A : Option Addr) (c : Nat) (bs : List Int) (w : World) (hR : Reads 1 byteC w w.heap.size A bs) (hb : ∀ x ∈ bs, U8 x) (hl : bs.length ≤ 1048576) (hc : bs.length ≤ c) (hcm : c ≤ 9223372036854775807) :
    Calls Tryd.prog 25 #[.slice A bs.length c] w (DrawnB0 w) := by
  have HR := Lib.hid hR; clear hR
  have HB := Lib.hid hb; clear hb
  go_enter Tryd.func25, Tryd.ntmps25
  go_wp2_with fail; ((with_reducible refine (l20Open_any A c bs _ HR.out HB.out hl hc hcm).mono ?_); rintro e w1 ⟨g, rfl, hg, hr1, hb_1⟩); have hz_1 := hb_1.size; (try simp only [World.size_alloc, World.size_setCell, World.size_drew] at hz_1)
  have hgz := hr1.lt
  have HR1 := Lib.hid hr1; have HB1 := Lib.hid hb_1; clear hr1 hb_1
  go_wp2_with fail
  refine (l20Blocks_any g 0 2 _ HR1.out (by omega) (by omega) (by omega)).mono ?_
  rintro e w2 ⟨v, xs, rfl, h7, hs, hd, hr2, hc2⟩
  have HD := Lib.hid hd; have HS := Lib.hid hs
  have HB2 : Hid (Below w.heap.size w w2) := HB1.out.trans ((hc2.below (Nat.le_of_lt hgz)).mono hg)
  have hz1 := HB1.out.size
  clear hs hc2 hd
  go_wp2_with fail
  go_ret
  exact ⟨_, _, rfl, h7, HS.out, HD.out.mono hz1, HB2.out⟩

set_option maxRecDepth 100000 in
set_option maxHeartbeats 4000000 in
theorem fnBlocksValid_any (A : Option Addr) (n c : Nat) (bs : List Int) (w : World) (hn : bs.length = n) (hb : ∀ x ∈ bs, U8 x) (hc : n ≤ c) (hcm : c ≤ maxLen) (hR : Reads 1 byteC w w.heap.size A bs) :
    Calls Tryd.prog 5 #[.slice A n c] w fun e w' => e = .returned (.bool true) ∧ Below w.heap.size w w' := by
  unfold maxLen at hcm
  subst hn
  have HR := Lib.hid hR; clear hR
  have HB := Lib.hid hb; clear hb
  by_cases hl : bs.length ≤ 1048576
  · have hl' : ¬ (1048576 : Int) < bs.length := by omega
    have hbb : ∀ x : Bool, (x != x) = false := fun x => by simp
    go_enter Tryd.func5, Tryd.ntmps5
    go_wp2_with fail; ((with_reducible refine (drawBlocksValid_any A c bs w HR.out HB.out hl hc hcm).mono ?_); rintro e w1 ⟨v1, xs, rfl, h7, hs, hd, hb_1⟩); have hz_1 := hb_1.size; (try simp only [World.size_alloc, World.size_setCell, World.size_drew] at hz_1)
    have HD := Lib.hid hd
    obtain ⟨A1, c1, rfl, hcp, hcpm, _⟩ := hd
    have HB1 := Lib.hid hb_1; clear hb_1 hs
    have hx1 : xs.length ≤ 1048576 := by omega
    go_wp2_with fail; ((with_reducible refine (implBlocksValid_any A1 c1 xs w1 HD.out.reads.1 hx1).mono ?_); rintro e w2 ⟨rfl, hb_2⟩); have hz_2 := hb_2.size; (try simp only [World.size_alloc, World.size_setCell, World.size_drew] at hz_2)
    have HD2 := Lib.hid (HD.out.below hb_2)
    have HB2 : Hid (Below w.heap.size w w2) := HB1.out.trans (hb_2.mono HB1.out.size)
    clear hb_2
    go_wp2_with fail; ((with_reducible refine (specBlocksValid_any A1 c1 xs w2 HD2.out.reads.1 hx1).mono ?_); rintro e w3 ⟨rfl, hb_3⟩); have hz_3 := hb_3.size; (try simp only [World.size_alloc, World.size_setCell, World.size_drew] at hz_3)
    have HD3 := Lib.hid (HD2.out.below hb_3)
    have HB3 : Hid (Below w.heap.size w w3) := HB2.out.trans (hb_3.mono HB2.out.size)
    clear hb_3
    have hv0 : blksV [] = true := blksV_t.2 ⟨by simp, by simp⟩
    have hvz : blksV (xs ++ [⟨0, 0⟩]) = false := blksV_f.2 (fun h => by
      have := h.2 ⟨0, 0⟩ (by simp); unfold BlkOk at this; simp only at this; omega)
    have hvt : blksV xs = true → blksV xs.tail = true := fun h => blksV_t.2 ⟨by have := (blksV_t.1 h).1; rw [List.length_tail]; omega, fun x hx => (blksV_t.1 h).2 x (List.mem_of_mem_tail hx)⟩
    have HV0 := Lib.hid hv0; have HVZ := Lib.hid hvz; have HVT := Lib.hid hvt; clear hv0 hvz hvt
    generalize hV : blksV xs = V at *
    clear hV
    cases V with
    | false =>
      have HA_4 := Lib.hid (Own.lit (k := 2) (c := r2C) (B := w3.heap.size) w3 33 #[] 0 [] (Nat.le_refl _) rfl (by omega) rfl); have HQ_4 := Lib.hid (Reads.more (Reads.below (HD3.out.reads.1) (Below.alloc (Below.refl w3.heap.size w3) (Nat.le_refl _) (.cells #[] 33)) (Nat.le_refl _)) (show w3.heap.size ≤ (w3.alloc (.cells #[] 33)).heap.size by simp)); go_wp2_with (first | (at_builtin; refine wpList_app_g (k := 2) (c := r2C) _ (by rfl) _ _ _ rfl 33 (.agg (Array.replicate 2 (.int .i64 0))) 16 Tryd.underlying23 (by kernel_rfl) rfl (by decide) (by decide) r2C_one _ _ _ rfl HA_4.out _ _ _ _ rfl HQ_4.out ?hm ?hlen ?hB ?_; (case hm => (first | rfl | (simp; done) | omega)); (case hlen => (simp only [List.length_nil]; omega)); (case hB => simp); intro v_4 w_4 hown_4 hg_4 hat_4; have HW_4 : Hid (Below w3.heap.size w3 w_4) := (Below.alloc (Below.refl _ _) (Nat.le_refl _) _).grown hg_4 (by simp) (fun q hq => by injection hq with hq; subst hq; exact Nat.le_refl _); simp only [List.nil_append] at hown_4; have HO_4 := Lib.hid hown_4; obtain ⟨A_4, c_4, hv_4⟩ := hown_4.slice; subst hv_4; have hz_4 := HW_4.out.size; clear hown_4 hg_4 hat_4 HA_4 HQ_4; have HL_5 := Lib.hid (Own.lit (k := 2) (c := r2C) (B := w3.heap.size) w_4 33 #[.int .i64 0, .int .i64 0] 1 [(⟨0, 0⟩ : R2)] (by first | exact Nat.le_refl _ | omega) rfl (by omega) rfl); have HQ_5 := Lib.hid (HL_5.out.reads rfl).1; have HV_5 := Lib.hid (Own.alloc (HO_4.out) (.cells #[.int .i64 0, .int .i64 0] 33)); have HK_5 := Lib.hid (Own.blk (HO_4.out))) | (at_builtin; refine wpList_app_g (k := 2) (c := r2C) _ (by rfl) _ _ _ rfl 33 (.agg (Array.replicate 2 (.int .i64 0))) 16 Tryd.underlying23 (by kernel_rfl) rfl (by decide) (by decide) r2C_one _ _ _ rfl HV_5.out _ _ _ _ rfl HQ_5.out ?hm ?hlen ?hB ?_; (case hm => (first | rfl | (simp; done) | omega)); (case hlen => (simp only [List.length_cons, List.length_nil]; omega)); (case hB => ((try simp only [World.size_alloc]); omega)); intro v_5 w_5 hown_5 hg_5 hat_5; have HW_5 : Hid (Below (w3.heap.size) (w_4) w_5) := (Below.alloc (Below.refl _ _) (by first | exact Nat.le_refl _ | omega) _).grown hg_5 (by (try simp only [World.size_alloc]); omega) (fun q hq => (HK_5.out q hq).1); have HG_5 := Lib.hid hg_5; have HAT_5 := Lib.hid hat_5; have HO_5 := Lib.hid hown_5; obtain ⟨A_5, c_5, hv_5⟩ := hown_5.slice; simp only [List.length_append, List.length_cons, List.length_nil, Nat.zero_add] at hv_5; subst hv_5; have hz_5 := HG_5.out.size; (try simp only [World.size_alloc] at hz_5); clear hown_5 hg_5 hat_5 HL_5 HQ_5 HV_5))
      have HB5 : Hid (Below w.heap.size w w_5) := HB3.out.trans ((HW_4.out.trans HW_5.out).mono HB3.out.size)
      go_wp2_with fail
      have hq5 := implBlocksValid_any A_5 c_5 (xs ++ [⟨0, 0⟩]) w_5 (HO_5.out.reads rfl).1 (by simp; omega)
      simp only [List.length_append, List.length_cons, List.length_nil, Nat.zero_add] at hq5
      refine hq5.mono ?_
      clear hq5
      rintro e w6 ⟨rfl, hb6⟩
      rw [HVZ.out]
      have HB6 : Hid (Below w.heap.size w w6) := HB5.out.trans (hb6.mono HB5.out.size)
      clear hb6
      go_wp2_with fail
      refine (implBlocksValid_any none 0 [] w6 reads_nil (by simp)).mono ?_
      rintro e w7 ⟨rfl, hb7⟩
      rw [HV0.out]
      have HB7 : Hid (Below w.heap.size w w7) := HB6.out.trans (hb7.mono HB6.out.size)
      clear hb7
      go_wp2_with fail
      refine (alive_any w7).mono ?_
      rintro e w8 ⟨rfl, hb8⟩
      have HB8 : Hid (Below w.heap.size w w8) := HB7.out.trans (hb8.mono HB7.out.size)
      clear hb8
      go_wp2_with fail
      go_ret
      exact ⟨rfl, HB8.out⟩
    | true =>
      by_cases h0 : xs.length = 0
      · have hz : ((xs.length : Int) == 0) = true := by simp [h0]
        have hz2 : (xs.length == 0) = true := by simp [h0]
        clear h0
        have HA_4 := Lib.hid (Own.lit (k := 2) (c := r2C) (B := w3.heap.size) w3 33 #[] 0 [] (Nat.le_refl _) rfl (by omega) rfl); have HQ_4 := Lib.hid (Reads.more (Reads.below (HD3.out.reads.1) (Below.alloc (Below.refl w3.heap.size w3) (Nat.le_refl _) (.cells #[] 33)) (Nat.le_refl _)) (show w3.heap.size ≤ (w3.alloc (.cells #[] 33)).heap.size by simp)); go_wp2_with (first | (at_builtin; refine wpList_app_g (k := 2) (c := r2C) _ (by rfl) _ _ _ rfl 33 (.agg (Array.replicate 2 (.int .i64 0))) 16 Tryd.underlying23 (by kernel_rfl) rfl (by decide) (by decide) r2C_one _ _ _ rfl HA_4.out _ _ _ _ rfl HQ_4.out ?hm ?hlen ?hB ?_; (case hm => (first | rfl | (simp; done) | omega)); (case hlen => (simp only [List.length_nil]; omega)); (case hB => simp); intro v_4 w_4 hown_4 hg_4 hat_4; have HW_4 : Hid (Below w3.heap.size w3 w_4) := (Below.alloc (Below.refl _ _) (Nat.le_refl _) _).grown hg_4 (by simp) (fun q hq => by injection hq with hq; subst hq; exact Nat.le_refl _); simp only [List.nil_append] at hown_4; have HO_4 := Lib.hid hown_4; obtain ⟨A_4, c_4, hv_4⟩ := hown_4.slice; subst hv_4; have hz_4 := HW_4.out.size; clear hown_4 hg_4 hat_4 HA_4 HQ_4; have HL_5 := Lib.hid (Own.lit (k := 2) (c := r2C) (B := w3.heap.size) w_4 33 #[.int .i64 0, .int .i64 0] 1 [(⟨0, 0⟩ : R2)] (by first | exact Nat.le_refl _ | omega) rfl (by omega) rfl); have HQ_5 := Lib.hid (HL_5.out.reads rfl).1; have HV_5 := Lib.hid (Own.alloc (HO_4.out) (.cells #[.int .i64 0, .int .i64 0] 33)); have HK_5 := Lib.hid (Own.blk (HO_4.out))) | (at_builtin; refine wpList_app_g (k := 2) (c := r2C) _ (by rfl) _ _ _ rfl 33 (.agg (Array.replicate 2 (.int .i64 0))) 16 Tryd.underlying23 (by kernel_rfl) rfl (by decide) (by decide) r2C_one _ _ _ rfl HV_5.out _ _ _ _ rfl HQ_5.out ?hm ?hlen ?hB ?_; (case hm => (first | rfl | (simp; done) | omega)); (case hlen => (simp only [List.length_cons, List.length_nil]; omega)); (case hB => ((try simp only [World.size_alloc]); omega)); intro v_5 w_5 hown_5 hg_5 hat_5; have HW_5 : Hid (Below (w3.heap.size) (w_4) w_5) := (Below.alloc (Below.refl _ _) (by first | exact Nat.le_refl _ | omega) _).grown hg_5 (by (try simp only [World.size_alloc]); omega) (fun q hq => (HK_5.out q hq).1); have HG_5 := Lib.hid hg_5; have HAT_5 := Lib.hid hat_5; have HO_5 := Lib.hid hown_5; obtain ⟨A_5, c_5, hv_5⟩ := hown_5.slice; simp only [List.length_append, List.length_cons, List.length_nil, Nat.zero_add] at hv_5; subst hv_5; have hz_5 := HG_5.out.size; (try simp only [World.size_alloc] at hz_5); clear hown_5 hg_5 hat_5 HL_5 HQ_5 HV_5))
        have HB5 : Hid (Below w.heap.size w w_5) := HB3.out.trans ((HW_4.out.trans HW_5.out).mono HB3.out.size)
        go_wp2_with fail
        have hq5 := implBlocksValid_any A_5 c_5 (xs ++ [⟨0, 0⟩]) w_5 (HO_5.out.reads rfl).1 (by simp; omega)
        simp only [List.length_append, List.length_cons, List.length_nil, Nat.zero_add] at hq5
        refine hq5.mono ?_
        clear hq5
        rintro e w6 ⟨rfl, hb6⟩
        rw [HVZ.out]
        have HB6 : Hid (Below w.heap.size w w6) := HB5.out.trans (hb6.mono HB5.out.size)
        clear hb6
        go_wp2_with fail
        refine (implBlocksValid_any none 0 [] w6 reads_nil (by simp)).mono ?_
        rintro e w7 ⟨rfl, hb7⟩
        rw [HV0.out]
        have HB7 : Hid (Below w.heap.size w w7) := HB6.out.trans (hb7.mono HB6.out.size)
        clear hb7
        go_wp2_with fail
        refine (alive_any w7).mono ?_
        rintro e w8 ⟨rfl, hb8⟩
        have HB8 : Hid (Below w.heap.size w w8) := HB7.out.trans (hb8.mono HB7.out.size)
        clear hb8
        go_wp2_with fail
        go_ret
        exact ⟨rfl, HB8.out⟩
      · have hz : ((xs.length : Int) == 0) = false := beq_eq_false_iff_ne.2 (by omega)
        have hz2 : (xs.length == 0) = false := beq_eq_false_iff_ne.2 (by omega)
        have hlen1 : (1 : Int) ≤ (xs.length : Int) := by omega
        have hcap1 : (xs.length : Int) ≤ (c1 : Int) := by omega
        have HVT1 := Lib.hid (HVT.out rfl)
        have htl : xs.tail.length = xs.length - 1 := List.length_tail
        have HTL := Lib.hid htl; clear htl
        by_cases hc1 : c1 = 1
        · have ht : xs.tail = [] := List.length_eq_zero_iff.1 (by rw [HTL.out]; omega)
          have hx0 : xs.length - 1 = 0 := by omega
          have HT0 := Lib.hid (And.intro ht hx0); clear ht hx0
          subst hc1
          go_wp2_with fail
          have hcall := implBlocksValid_any A1 0 [] w3 reads_nil (by simp)
          refine hcall.mono ?_
          rintro e w3t ⟨rfl, hb3t⟩
          rw [HV0.out]
          have HD3t := Lib.hid (HD3.out.below hb3t)
          have HB3t : Hid (Below w.heap.size w w3t) := HB3.out.trans (hb3t.mono HB3.out.size)
          clear hb3t
          have HA_4 := Lib.hid (Own.lit (k := 2) (c := r2C) (B := w3t.heap.size) w3t 33 #[] 0 [] (Nat.le_refl _) rfl (by omega) rfl); have HQ_4 := Lib.hid (Reads.more (Reads.below (HD3t.out.reads.1) (Below.alloc (Below.refl w3t.heap.size w3t) (Nat.le_refl _) (.cells #[] 33)) (Nat.le_refl _)) (show w3t.heap.size ≤ (w3t.alloc (.cells #[] 33)).heap.size by simp)); go_wp2_with (first | (at_builtin; refine wpList_app_g (k := 2) (c := r2C) _ (by rfl) _ _ _ rfl 33 (.agg (Array.replicate 2 (.int .i64 0))) 16 Tryd.underlying23 (by kernel_rfl) rfl (by decide) (by decide) r2C_one _ _ _ rfl HA_4.out _ _ _ _ rfl HQ_4.out ?hm ?hlen ?hB ?_; (case hm => (first | rfl | (simp; done) | omega)); (case hlen => (simp only [List.length_nil]; omega)); (case hB => simp); intro v_4 w_4 hown_4 hg_4 hat_4; have HW_4 : Hid (Below w3t.heap.size w3t w_4) := (Below.alloc (Below.refl _ _) (Nat.le_refl _) _).grown hg_4 (by simp) (fun q hq => by injection hq with hq; subst hq; exact Nat.le_refl _); simp only [List.nil_append] at hown_4; have HO_4 := Lib.hid hown_4; obtain ⟨A_4, c_4, hv_4⟩ := hown_4.slice; subst hv_4; have hz_4 := HW_4.out.size; clear hown_4 hg_4 hat_4 HA_4 HQ_4; have HL_5 := Lib.hid (Own.lit (k := 2) (c := r2C) (B := w3t.heap.size) w_4 33 #[.int .i64 0, .int .i64 0] 1 [(⟨0, 0⟩ : R2)] (by first | exact Nat.le_refl _ | omega) rfl (by omega) rfl); have HQ_5 := Lib.hid (HL_5.out.reads rfl).1; have HV_5 := Lib.hid (Own.alloc (HO_4.out) (.cells #[.int .i64 0, .int .i64 0] 33)); have HK_5 := Lib.hid (Own.blk (HO_4.out))) | (at_builtin; refine wpList_app_g (k := 2) (c := r2C) _ (by rfl) _ _ _ rfl 33 (.agg (Array.replicate 2 (.int .i64 0))) 16 Tryd.underlying23 (by kernel_rfl) rfl (by decide) (by decide) r2C_one _ _ _ rfl HV_5.out _ _ _ _ rfl HQ_5.out ?hm ?hlen ?hB ?_; (case hm => (first | rfl | (simp; done) | omega)); (case hlen => (simp only [List.length_cons, List.length_nil]; omega)); (case hB => ((try simp only [World.size_alloc]); omega)); intro v_5 w_5 hown_5 hg_5 hat_5; have HW_5 : Hid (Below (w3t.heap.size) (w_4) w_5) := (Below.alloc (Below.refl _ _) (by first | exact Nat.le_refl _ | omega) _).grown hg_5 (by (try simp only [World.size_alloc]); omega) (fun q hq => (HK_5.out q hq).1); have HG_5 := Lib.hid hg_5; have HAT_5 := Lib.hid hat_5; have HO_5 := Lib.hid hown_5; obtain ⟨A_5, c_5, hv_5⟩ := hown_5.slice; simp only [List.length_append, List.length_cons, List.length_nil, Nat.zero_add] at hv_5; subst hv_5; have hz_5 := HG_5.out.size; (try simp only [World.size_alloc] at hz_5); clear hown_5 hg_5 hat_5 HL_5 HQ_5 HV_5))
          have HB5 : Hid (Below w.heap.size w w_5) := HB3t.out.trans ((HW_4.out.trans HW_5.out).mono HB3t.out.size)
          go_wp2_with fail
          have hq5 := implBlocksValid_any A_5 c_5 (xs ++ [⟨0, 0⟩]) w_5 (HO_5.out.reads rfl).1 (by simp; omega)
          simp only [List.length_append, List.length_cons, List.length_nil, Nat.zero_add] at hq5
          refine hq5.mono ?_
          clear hq5
          rintro e w6 ⟨rfl, hb6⟩
          rw [HVZ.out]
          have HB6 : Hid (Below w.heap.size w w6) := HB5.out.trans (hb6.mono HB5.out.size)
          clear hb6
          go_wp2_with fail
          refine (implBlocksValid_any none 0 [] w6 reads_nil (by simp)).mono ?_
          rintro e w7 ⟨rfl, hb7⟩
          rw [HV0.out]
          have HB7 : Hid (Below w.heap.size w w7) := HB6.out.trans (hb7.mono HB6.out.size)
          clear hb7
          go_wp2_with fail
          refine (alive_any w7).mono ?_
          rintro e w8 ⟨rfl, hb8⟩
          have HB8 : Hid (Below w.heap.size w w8) := HB7.out.trans (hb8.mono HB7.out.size)
          clear hb8
          go_wp2_with fail
          go_ret
          exact ⟨rfl, HB8.out⟩
        · have hrt : ∃ b off, A1 = some ⟨b, off, none⟩ := by
            obtain ⟨b, off, e, _⟩ := HD3.out.reads.1.at_ (i := 0) (by omega)
            exact ⟨b, off, e⟩
          obtain ⟨b, off, rfl⟩ := hrt
          have hcall := implBlocksValid_any (some ⟨b, off + 2, none⟩) (c1 - 1) xs.tail w3 (HD3.out.tail (by omega)).reads.1 (by rw [HTL.out]; omega)
          rw [HTL.out, HVT1.out] at hcall
          have HCL := Lib.hid hcall; clear hcall
          have hc1' : ¬ ((c1 : Int) = 1) := by omega
          go_wp2_with fail
          refine HCL.out.mono ?_
          rintro e w3t ⟨rfl, hb3t⟩
          have HD3t := Lib.hid (HD3.out.below hb3t)
          have HB3t : Hid (Below w.heap.size w w3t) := HB3.out.trans (hb3t.mono HB3.out.size)
          clear hb3t
          have HA_4 := Lib.hid (Own.lit (k := 2) (c := r2C) (B := w3t.heap.size) w3t 33 #[] 0 [] (Nat.le_refl _) rfl (by omega) rfl); have HQ_4 := Lib.hid (Reads.more (Reads.below (HD3t.out.reads.1) (Below.alloc (Below.refl w3t.heap.size w3t) (Nat.le_refl _) (.cells #[] 33)) (Nat.le_refl _)) (show w3t.heap.size ≤ (w3t.alloc (.cells #[] 33)).heap.size by simp)); go_wp2_with (first | (at_builtin; refine wpList_app_g (k := 2) (c := r2C) _ (by rfl) _ _ _ rfl 33 (.agg (Array.replicate 2 (.int .i64 0))) 16 Tryd.underlying23 (by kernel_rfl) rfl (by decide) (by decide) r2C_one _ _ _ rfl HA_4.out _ _ _ _ rfl HQ_4.out ?hm ?hlen ?hB ?_; (case hm => (first | rfl | (simp; done) | omega)); (case hlen => (simp only [List.length_nil]; omega)); (case hB => simp); intro v_4 w_4 hown_4 hg_4 hat_4; have HW_4 : Hid (Below w3t.heap.size w3t w_4) := (Below.alloc (Below.refl _ _) (Nat.le_refl _) _).grown hg_4 (by simp) (fun q hq => by injection hq with hq; subst hq; exact Nat.le_refl _); simp only [List.nil_append] at hown_4; have HO_4 := Lib.hid hown_4; obtain ⟨A_4, c_4, hv_4⟩ := hown_4.slice; subst hv_4; have hz_4 := HW_4.out.size; clear hown_4 hg_4 hat_4 HA_4 HQ_4; have HL_5 := Lib.hid (Own.lit (k := 2) (c := r2C) (B := w3t.heap.size) w_4 33 #[.int .i64 0, .int .i64 0] 1 [(⟨0, 0⟩ : R2)] (by first | exact Nat.le_refl _ | omega) rfl (by omega) rfl); have HQ_5 := Lib.hid (HL_5.out.reads rfl).1; have HV_5 := Lib.hid (Own.alloc (HO_4.out) (.cells #[.int .i64 0, .int .i64 0] 33)); have HK_5 := Lib.hid (Own.blk (HO_4.out))) | (at_builtin; refine wpList_app_g (k := 2) (c := r2C) _ (by rfl) _ _ _ rfl 33 (.agg (Array.replicate 2 (.int .i64 0))) 16 Tryd.underlying23 (by kernel_rfl) rfl (by decide) (by decide) r2C_one _ _ _ rfl HV_5.out _ _ _ _ rfl HQ_5.out ?hm ?hlen ?hB ?_; (case hm => (first | rfl | (simp; done) | omega)); (case hlen => (simp only [List.length_cons, List.length_nil]; omega)); (case hB => ((try simp only [World.size_alloc]); omega)); intro v_5 w_5 hown_5 hg_5 hat_5; have HW_5 : Hid (Below (w3t.heap.size) (w_4) w_5) := (Below.alloc (Below.refl _ _) (by first | exact Nat.le_refl _ | omega) _).grown hg_5 (by (try simp only [World.size_alloc]); omega) (fun q hq => (HK_5.out q hq).1); have HG_5 := Lib.hid hg_5; have HAT_5 := Lib.hid hat_5; have HO_5 := Lib.hid hown_5; obtain ⟨A_5, c_5, hv_5⟩ := hown_5.slice; simp only [List.length_append, List.length_cons, List.length_nil, Nat.zero_add] at hv_5; subst hv_5; have hz_5 := HG_5.out.size; (try simp only [World.size_alloc] at hz_5); clear hown_5 hg_5 hat_5 HL_5 HQ_5 HV_5))
          have HB5 : Hid (Below w.heap.size w w_5) := HB3t.out.trans ((HW_4.out.trans HW_5.out).mono HB3t.out.size)
          go_wp2_with fail
          have hq5 := implBlocksValid_any A_5 c_5 (xs ++ [⟨0, 0⟩]) w_5 (HO_5.out.reads rfl).1 (by simp; omega)
          simp only [List.length_append, List.length_cons, List.length_nil, Nat.zero_add] at hq5
          refine hq5.mono ?_
          clear hq5
          rintro e w6 ⟨rfl, hb6⟩
          rw [HVZ.out]
          have HB6 : Hid (Below w.heap.size w w6) := HB5.out.trans (hb6.mono HB5.out.size)
          clear hb6
          go_wp2_with fail
          refine (implBlocksValid_any none 0 [] w6 reads_nil (by simp)).mono ?_
          rintro e w7 ⟨rfl, hb7⟩
          rw [HV0.out]
          have HB7 : Hid (Below w.heap.size w w7) := HB6.out.trans (hb7.mono HB6.out.size)
          clear hb7
          go_wp2_with fail
          refine (alive_any w7).mono ?_
          rintro e w8 ⟨rfl, hb8⟩
          have HB8 : Hid (Below w.heap.size w w8) := HB7.out.trans (hb8.mono HB7.out.size)
          clear hb8
          go_wp2_with fail
          go_ret
          exact ⟨rfl, HB8.out⟩
  · have hl' : (1048576 : Int) < bs.length := by omega
    go_enter Tryd.func5, Tryd.ntmps5
    go_wp2_with fail
    go_ret
    exact ⟨rfl, Below.refl _ _⟩
end Go.Proofs.YtecekhjlapaofaaDoor
