/- The law FnGradeOk: its walk. -/
import Derived.Test.YtkndokcpnlbipaaDoorRlJ
namespace Go.Proofs.YtkndokcpnlbipaaDoor
open Go.RowKit Go.Deep
set_option linter.unusedSimpArgs false
set_option linter.unusedVariables false
theorem reads_pair (W : World) (T : TypeId) (a b c d : Int) : Reads 2 r2C (W.alloc (.cells #[.int .i64 a, .int .i64 b, .int .i64 c, .int .i64 d] T)) (W.alloc (.cells #[.int .i64 a, .int .i64 b, .int .i64 c, .int .i64 d] T)).heap.size (some ⟨W.heap.size, 0, none⟩) [⟨a, b⟩, ⟨c, d⟩] :=
  ((Own.lit (k := 2) (c := r2C) (B := W.heap.size) W T #[.int .i64 a, .int .i64 b, .int .i64 c, .int .i64 d] 2 [⟨a, b⟩, ⟨c, d⟩] (Nat.le_refl _) rfl (by omega) rfl).reads rfl).1
set_option maxRecDepth 100000 in
set_option maxHeartbeats 8000000 in
theorem fnGradeOk_any (A : Option Addr) (n c : Nat) (bs : List Int) (w : World) (hn : bs.length = n) (hb : ∀ x ∈ bs, U8 x) (hc : n ≤ c) (hcm : c ≤ maxLen) (hR : Reads 1 byteC w w.heap.size A bs) :
    Calls Tryd.prog 7 #[.slice A n c] w fun e w' => e = .returned (.bool true) ∧ Below w.heap.size w w' := by
  unfold maxLen at hcm
  subst hn
  have HR := Lib.hid hR; clear hR
  have HB := Lib.hid hb; clear hb
  have HB_w : Hid (Below w.heap.size w w) := Below.refl _ _
  have hbb : ∀ x : Bool, (x != x) = false := fun x => by simp
  have hnn : ∀ x : Int, (x != x) = false := fun x => by simp
  by_cases hl : ¬ bs.length ≤ 1048576
  · have hl' : (1048576 : Int) < bs.length := by omega
    go_enter Tryd.func7, Tryd.ntmps7
    go_wp2_with fail
    go_ret
    exact ⟨rfl, Below.refl _ _⟩
  have hl : bs.length ≤ 1048576 := by omega
  have hl' : ¬ (1048576 : Int) < bs.length := by omega
  go_enter Tryd.func7, Tryd.ntmps7
  go_wp2_with fail; ((with_reducible refine (drawGradeOk_any A c bs w HR.out HB.out hl hc hcm).mono ?_); rintro e w1 ⟨np, nd, p, d, m, lo, hi, rfl, hs, hnp0, hnp1, hnd0, hnd1, hm0, hm1, hlo0, hlo1, hhi0, hhi1, hb_w1⟩); have HB_w1 : Hid (Below w.heap.size w w1) := HB_w.out.trans (hb_w1.mono HB_w.out.size); clear hb_w1
  clear hs
  obtain ⟨b, hbb2⟩ : ∃ b, gradeB np nd p d m lo hi = b := ⟨_, rfl⟩
  have HI : Hid (∀ W : World, Calls Tryd.prog 23 #[.agg #[.int .i64 np, .int .i64 nd], .agg #[.int .i64 p, .int .i64 d], .int .i64 m, .int .i64 lo, .int .i64 hi] W fun e w' => e = .returned (.bool b) ∧ Below W.heap.size W w') := fun W => by rw [← hbb2]; exact implGradeOk_any _ _ _ _ _ _ _ _
  have HS : Hid (∀ W : World, Calls Tryd.prog 25 #[.agg #[.int .i64 np, .int .i64 nd], .agg #[.int .i64 p, .int .i64 d], .int .i64 m, .int .i64 lo, .int .i64 hi] W fun e w' => e = .returned (.bool b) ∧ Below W.heap.size W w') := fun W => by rw [← hbb2]; exact specGradeOk_any _ _ _ _ _ _ _ _
  go_wp2_with fail; ((with_reducible refine (HI.out _).mono ?_); rintro e w2 ⟨rfl, hb_30⟩); have cB0_30 := keepB hb_30 (g := w1.heap.size) (by go_size); have fB0_30 := keepF hb_30 (g := w1.heap.size) (by go_size); have zB0_30 := keepZ hb_30 (g := w1.heap.size) (by go_size); have cB1_30 := keepB hb_30 (g := w1.heap.size + 1) (by go_size); have fB1_30 := keepF hb_30 (g := w1.heap.size + 1) (by go_size); have zB1_30 := keepZ hb_30 (g := w1.heap.size + 1) (by go_size); have hz_30 := hb_30.size; (try simp only [World.size_alloc, World.size_setCell, World.size_drew] at hz_30)
  go_wp2_with fail; ((with_reducible refine (HS.out _).mono ?_); rintro e w3 ⟨rfl, hb_31⟩); have cB0_31 := keepB hb_31 (g := w1.heap.size) (by go_size); have fB0_31 := keepF hb_31 (g := w1.heap.size) (by go_size); have zB0_31 := keepZ hb_31 (g := w1.heap.size) (by go_size); have cB1_31 := keepB hb_31 (g := w1.heap.size + 1) (by go_size); have fB1_31 := keepF hb_31 (g := w1.heap.size + 1) (by go_size); have zB1_31 := keepZ hb_31 (g := w1.heap.size + 1) (by go_size); have hz_31 := hb_31.size; (try simp only [World.size_alloc, World.size_setCell, World.size_drew] at hz_31)
  have HB3 : Hid (Below w.heap.size w w3) := by unfold Hid; have hq := HB_w1.out; have hqz := hq.size; (repeat' (first | (with_reducible exact Below.refl _ _) | (with_reducible refine Below.alloc ?_ ?_ _) | (with_reducible refine Below.setCell ?_ ?_ _) | (with_reducible refine Below.drew ?_) | (refine Below.trans ?_ (Below.mono (by with_reducible assumption) ?_)) | go_size))
  have K0 : Hid (Bk w3 w1.heap.size 24 #[.int .i64 np, .int .i64 nd]) := (((Bk.new w1 _ _).alloc _).keep hb_30).keep hb_31
  have K1 : Hid (Bk w3 (w1.heap.size + 1) 24 #[.int .i64 p, .int .i64 d]) := ((Bk.new_at (w1.alloc _) _ _ (by simp)).keep hb_30).keep hb_31
  clear cB0_30 fB0_30 zB0_30 cB1_30 fB1_30 zB1_30 hb_30 hz_30 cB0_31 fB0_31 zB0_31 cB1_31 fB1_31 zB1_31 hb_31 hz_31
  cases b with
  | false =>
    clear hbb2
    go_wp2_with fail; ((with_reducible refine (alive_any _).mono ?_); rintro e w4 ⟨rfl, hb_43⟩); have hz_43 := hb_43.size; (try simp only [World.size_alloc, World.size_setCell, World.size_drew] at hz_43)
    go_wp2_with fail
    go_ret
    exact ⟨rfl, HB3.out.trans (hb_43.mono HB3.out.size)⟩
  | true =>
    have hG := gradeB_t.1 hbb2
    have hlh : 0 ≤ lo ∧ lo ≤ hi ∧ hi ≤ 400 := hG.2.2.2.1
    have hm4 : 1 ≤ m ∧ m ≤ 400 := hG.2.2.1
    obtain ⟨hl0, hl1, hl2⟩ := hlh
    obtain ⟨hm2, hm3⟩ := hm4
    have HG := Lib.hid hG; clear hG hbb2
    go_wp2_with fail
    go_loopw [9] (fun t9 wr => ∃ cu : Int, t9 = .int .i64 cu ∧ lo ≤ cu ∧ cu ≤ hi + 1 ∧ Hid (Bk wr w1.heap.size 24 #[.int .i64 np, .int .i64 nd]) ∧ Hid (Bk wr (w1.heap.size + 1) 24 #[.int .i64 p, .int .i64 d]) ∧ Hid (Below w.heap.size w wr)) (fun t9 _ => (hi + 1 - intOf t9).toNat)
    case atStart => exact ⟨lo, rfl, by omega, by omega, K0, K1, HB3⟩
    case round =>
      obtain ⟨cu, rfl, hc0, hc1, K2, K3, HBr⟩ := hrel
      clear K0 K1 HB3
      have cB0 := K2.out.cell
      have cB1 := K3.out.cell
      have zB0 := K2.out.lt
      have zB1 := K3.out.lt
      by_cases hcu : cu ≤ hi
      · have hfirst := fun ht => grade_first HG.out hc0 hcu ht
        have HF := Lib.hid hfirst; clear hfirst
        have hsb := srt_bd (p := np) (d := nd) (c := cu)
        obtain ⟨T, hT⟩ : ∃ T, srt np nd cu = T := ⟨_, rfl⟩
        have HRT : Hid (∀ W : World, Calls Tryd.prog 10 #[.agg #[.int .i64 np, .int .i64 nd], .int .i64 cu] W fun e w' => e = .returned (.int .i64 T) ∧ Below W.heap.size W w') := fun W => by rw [← hT]; exact implRelayTime_any _ _ _ _
        rw [hT] at HF hsb
        clear hT
        go_wp2_with fail; ((with_reducible refine (HRT.out _).mono ?_); rintro e w4 ⟨rfl, hb_32⟩); have cB0_32 := keepB hb_32 (g := w1.heap.size) (by go_size); have fB0_32 := keepF hb_32 (g := w1.heap.size) (by go_size); have zB0_32 := keepZ hb_32 (g := w1.heap.size) (by go_size); have cB1_32 := keepB hb_32 (g := w1.heap.size + 1) (by go_size); have fB1_32 := keepF hb_32 (g := w1.heap.size + 1) (by go_size); have zB1_32 := keepZ hb_32 (g := w1.heap.size + 1) (by go_size); have hz_32 := hb_32.size; (try simp only [World.size_alloc, World.size_setCell, World.size_drew] at hz_32)
        have K4 := Lib.hid (K2.out.keep hb_32)
        have K5 := Lib.hid (K3.out.keep hb_32)
        have HB4 : Hid (Below w.heap.size w w4) := HBr.out.trans (hb_32.mono HBr.out.size)
        clear hb_32
        by_cases h0 : 0 ≤ T
        · have htr := HF.out h0
          have HTR := Lib.hid htr; clear htr
          go_wp2_with fail; ((with_reducible refine (implFirstTrip_any (some ⟨w4.heap.size, 0, none⟩) 2 2 [⟨np, nd⟩, ⟨p, d⟩] cu _ rfl (reads_pair w4 _ np nd p d) (by omega)).mono ?_); rintro e w5 ⟨x, rfl, hx, hb_33⟩); have cB0_33 := keepB hb_33 (g := w1.heap.size) (by go_size); have fB0_33 := keepF hb_33 (g := w1.heap.size) (by go_size); have zB0_33 := keepZ hb_33 (g := w1.heap.size) (by go_size); have cB1_33 := keepB hb_33 (g := w1.heap.size + 1) (by go_size); have fB1_33 := keepF hb_33 (g := w1.heap.size + 1) (by go_size); have zB1_33 := keepZ hb_33 (g := w1.heap.size + 1) (by go_size); have hz_33 := hb_33.size; (try simp only [World.size_alloc, World.size_setCell, World.size_drew] at hz_33)
          obtain rfl : x = 1 := hx.uniq HTR.out
          clear hx
          have K6 := Lib.hid ((K4.out.alloc (.cells #[.int .i64 np, .int .i64 nd, .int .i64 p, .int .i64 d] 24)).keep hb_33)
          have K7 := Lib.hid ((K5.out.alloc (.cells #[.int .i64 np, .int .i64 nd, .int .i64 p, .int .i64 d] 24)).keep hb_33)
          have HB5 : Hid (Below w.heap.size w w5) := (HB4.out.alloc HB4.out.size _).trans (hb_33.mono (by have := HB4.out.size; simp; omega))
          clear hb_33
          go_wp2_with fail
          all_goals try (exfalso; omega; done)
          exact ⟨⟨cu + 1, by go_num, by omega, by omega, K6, K7, HB5⟩, by simp [intOf]; omega⟩
        · have h0' : T < 0 := by omega
          clear h0
          go_wp2_with fail
          all_goals try (exfalso; omega; done)
          exact ⟨⟨cu + 1, by go_num, by omega, by omega, K4, K5, HB4⟩, by simp [intOf]; omega⟩
      · have hcu' : hi < cu := by omega
        have hless := grade_less HG.out
        have HLS := Lib.hid hless; clear hless
        have HGM : Hid (¬ m = 1 → ∀ W : World, Calls Tryd.prog 23 #[.agg #[.int .i64 np, .int .i64 nd], .agg #[.int .i64 p, .int .i64 d], .int .i64 (m - 1), .int .i64 lo, .int .i64 hi] W fun e w' => e = .returned (.bool true) ∧ Below W.heap.size W w') := fun h W => by rw [← HLS.out.1 h]; exact implGradeOk_any _ _ _ _ _ _ _ _
        have HGL : Hid (¬ lo = hi → ∀ W : World, Calls Tryd.prog 23 #[.agg #[.int .i64 np, .int .i64 nd], .agg #[.int .i64 p, .int .i64 d], .int .i64 m, .int .i64 (lo + 1), .int .i64 hi] W fun e w' => e = .returned (.bool true) ∧ Below W.heap.size W w') := fun h W => by rw [← HLS.out.2 h]; exact implGradeOk_any _ _ _ _ _ _ _ _
        by_cases hm1 : m = 1
        · have e1 : (m == 1) = true := by simp [hm1]
          by_cases hlh : lo = hi
          · have e2 : (lo == hi) = true := by simp [hlh]
            clear hm1 hlh
            go_wp2_with fail
            all_goals try (exfalso; omega; done)
            go_ret
            exact ⟨rfl, HBr.out⟩
          · have e2 : (lo == hi) = false := by simp [hlh]
            have hgl := HGL.out hlh
            have HQ2 := Lib.hid hgl; clear hgl
            clear hm1 hlh
            go_wp2_with fail; ((with_reducible refine (HQ2.out _).mono ?_); rintro e w5 ⟨rfl, hb_45⟩); have hz_45 := hb_45.size; (try simp only [World.size_alloc, World.size_setCell, World.size_drew] at hz_45)
            go_wp2_with fail
            all_goals try (exfalso; omega; done)
            go_ret
            exact ⟨rfl, HBr.out.trans (hb_45.mono HBr.out.size)⟩
        · have e1 : (m == 1) = false := by simp [hm1]
          have hgm := HGM.out hm1
          have HQ1 := Lib.hid hgm; clear hgm
          by_cases hlh : lo = hi
          · have e2 : (lo == hi) = true := by simp [hlh]
            clear hm1 hlh
            go_wp2_with fail; ((with_reducible refine (HQ1.out _).mono ?_); rintro e w4 ⟨rfl, hb_46⟩); have cB0_46 := keepB hb_46 (g := w1.heap.size) (by go_size); have fB0_46 := keepF hb_46 (g := w1.heap.size) (by go_size); have zB0_46 := keepZ hb_46 (g := w1.heap.size) (by go_size); have cB1_46 := keepB hb_46 (g := w1.heap.size + 1) (by go_size); have fB1_46 := keepF hb_46 (g := w1.heap.size + 1) (by go_size); have zB1_46 := keepZ hb_46 (g := w1.heap.size + 1) (by go_size); have hz_46 := hb_46.size; (try simp only [World.size_alloc, World.size_setCell, World.size_drew] at hz_46)
            go_wp2_with fail
            all_goals try (exfalso; omega; done)
            go_ret
            exact ⟨rfl, HBr.out.trans (hb_46.mono HBr.out.size)⟩
          · have e2 : (lo == hi) = false := by simp [hlh]
            have hgl := HGL.out hlh
            have HQ2 := Lib.hid hgl; clear hgl
            clear hm1 hlh
            go_wp2_with fail; ((with_reducible refine (HQ1.out _).mono ?_); rintro e w4 ⟨rfl, hb_47⟩); have cB0_47 := keepB hb_47 (g := w1.heap.size) (by go_size); have fB0_47 := keepF hb_47 (g := w1.heap.size) (by go_size); have zB0_47 := keepZ hb_47 (g := w1.heap.size) (by go_size); have cB1_47 := keepB hb_47 (g := w1.heap.size + 1) (by go_size); have fB1_47 := keepF hb_47 (g := w1.heap.size + 1) (by go_size); have zB1_47 := keepZ hb_47 (g := w1.heap.size + 1) (by go_size); have hz_47 := hb_47.size; (try simp only [World.size_alloc, World.size_setCell, World.size_drew] at hz_47)
            go_wp2_with fail; ((with_reducible refine (HQ2.out _).mono ?_); rintro e w5 ⟨rfl, hb_48⟩); have hz_48 := hb_48.size; (try simp only [World.size_alloc, World.size_setCell, World.size_drew] at hz_48)
            go_wp2_with fail
            all_goals try (exfalso; omega; done)
            go_ret
            exact ⟨rfl, HBr.out.trans ((hb_47.mono HBr.out.size).trans (hb_48.mono (Nat.le_trans HBr.out.size hb_47.size)))⟩
end Go.Proofs.YtkndokcpnlbipaaDoor
