/- The law FnLeastDial: draw and walk. -/
import Derived.Test.YtkndokcpnlbipaaDoorRlH
import Derived.Test.YtkndokcpnlbipaaDoorRlA
import Derived.Test.YtkndokcpnlbipaaDoorAlive
namespace Go.Proofs.YtkndokcpnlbipaaDoor
open Go.RowKit Go.Deep
set_option linter.unusedSimpArgs false
set_option linter.unusedVariables false
def DrawnLD (w : World) (e : Ending) (w' : World) : Prop := ∃ k p d m lo hi : Int, e = .returned (.tuple #[.int .i64 k, .agg #[.int .i64 p, .int .i64 d], .int .i64 m, .int .i64 lo, .int .i64 hi]) ∧ SmR p d ∧ -1 ≤ k ∧ k ≤ 420 ∧ 0 ≤ m ∧ m ≤ 12 ∧ -250 ≤ lo ∧ lo ≤ 400 ∧ -1 ≤ hi ∧ hi ≤ 401 ∧ Below w.heap.size w w'
set_option maxRecDepth 100000 in
set_option maxHeartbeats 4000000 in
theorem drawLeastDial_any (A : Option Addr) (c : Nat) (bs : List Int) (w : World) (hR : Reads 1 byteC w w.heap.size A bs) (hb : ∀ x ∈ bs, U8 x) (hl : bs.length ≤ 1048576) (hc : bs.length ≤ c) (hcm : c ≤ 9223372036854775807) :
    Calls Tryd.prog 20 #[.slice A bs.length c] w (DrawnLD w) := by
  have HR := Lib.hid hR; clear hR
  have HB := Lib.hid hb; clear hb
  go_enter Tryd.func20, Tryd.ntmps20
  go_wp2_with fail; ((with_reducible refine (l20Open_any A c bs _ ((HR.out.below (Below.alloc (Below.refl w.heap.size w) (Nat.le_refl _) _) (Nat.le_refl _)).more (by simp)) HB.out hl hc hcm).mono ?_); rintro e w1 ⟨g, rfl, hg, hr1, hb_1⟩); have cB0_1 := keepB hb_1 (g := w.heap.size) (by go_size); have fB0_1 := keepF hb_1 (g := w.heap.size) (by go_size); have zB0_1 := keepZ hb_1 (g := w.heap.size) (by go_size); have hz_1 := hb_1.size; (try simp only [World.size_alloc, World.size_setCell, World.size_drew] at hz_1)
  have hgz := hr1.lt
  have HR1 := Lib.hid hr1; clear hr1
  simp only [World.size_alloc] at hg
  have K0 : Hid (Bk w1 w.heap.size 24 #[.int .i64 0, .int .i64 0]) := (Bk.new w _ _).keep hb_1
  have HB1 : Hid (Below w.heap.size w w1) := by unfold Hid; (repeat' (first | (with_reducible exact Below.refl _ _) | (with_reducible refine Below.alloc ?_ ?_ _) | (with_reducible refine Below.setCell ?_ ?_ _) | (with_reducible refine Below.drew ?_) | (refine Below.trans ?_ (Below.mono (by with_reducible assumption) ?_)) | go_size))
  clear cB0_1 fB0_1 zB0_1 hb_1 hz_1
  go_wp2_with fail
  refine (l20Relay_any g 0 20 _ HR1.out (by omega) (by omega) (by omega)).mono ?_
  rintro e w2 ⟨p, d, rfl, hs, hr2, hc2⟩
  unfold SmR at hs
  obtain ⟨hp0, hp1, hd0, hd1⟩ := hs
  have K0b := Lib.hid (hc2.bk K0.out (by omega))
  have HB2 : Hid (Below w.heap.size w w2) := HB1.out.trans ((hc2.below (by omega)).mono (by omega))
  have HR2 := Lib.hid (hr2.alloc (.cells #[.int .i64 p, .int .i64 d] 24))
  have hz2 := hc2.size
  have hgz2 := hr2.lt
  clear hc2 hr2 HB1 K0 HR1
  have hzk := K0b.out.lt
  have K0c := Lib.hid (K0b.out.alloc (.cells #[.int .i64 p, .int .i64 d] 24))
  have K1 := Lib.hid (Bk.new w2 24 #[.int .i64 p, .int .i64 d])
  have HB3 : Hid (Below w.heap.size w (w2.alloc (.cells #[.int .i64 p, .int .i64 d] 24))) := HB2.out.alloc (by omega) _
  go_wp2_with fail
  generalize hW3 : w2.alloc (.cells #[.int .i64 p, .int .i64 d] 24) = w3 at *
  have hz3 : w3.heap.size = w2.heap.size + 1 := by rw [← hW3]; simp
  clear hW3 K0b HB2
  have c0 : w3.cell? ⟨w2.heap.size, 0, none⟩ = some (.int .i64 p) := by rw [K1.out.cell]; rfl
  have c1 : w3.cell? ⟨w2.heap.size, 1, none⟩ = some (.int .i64 d) := by rw [K1.out.cell]; rfl
  have f1 : ∀ i, w3.frozen? ⟨w2.heap.size, i, none⟩ = false := K1.out.frozen
  go_cut [] (fun wx => ∃ d2 : Int, 0 ≤ d2 ∧ d2 ≤ 61 ∧ Hid (Bk wx w.heap.size 24 #[.int .i64 0, .int .i64 0] ∧ Bk wx w2.heap.size 24 #[.int .i64 p, .int .i64 d2] ∧ RdOk 64 wx g 20 ∧ Below w.heap.size w wx ∧ w3.heap.size ≤ wx.heap.size))
  case first =>
    go_region_with (first | (go_at_call 32; (with_reducible refine (pick_any g (0 + 10) 40 _ (by with_reducible exact HR2.out.below (Below.drew (Below.refl _ _))) (by omega) (by omega)).mono ?_); rintro e w5 ⟨u, rfl, h0u, h1u, hr5, hc5⟩; have cB2 := Chg.cell hc5 (b := w2.heap.size) (by go_size) (by omega); have fB2 := Chg.frozen hc5 (b := w2.heap.size) (by go_size) (by omega); have zB2 : w2.heap.size < w5.heap.size := Nat.lt_of_lt_of_le (by go_size) hc5.size; have hw : IntKind.i64.wrap (1 + u) = 1 + u := IntWalk.i64_in _ (by omega)))
    all_goals
      obtain ⟨mx, hmx⟩ : ∃ mx, (if 1 + u < d then 1 + u else d) = mx := ⟨_, rfl⟩
      have hm0 : 0 ≤ mx ∧ mx ≤ 61 := by rw [← hmx]; split <;> omega
      rw [hmx]
      go_wp2_with fail
      go_meet
      have hk := (hc5.undrew.bk K1.out (by omega)).set 1 (.int .i64 mx)
      refine ⟨mx, hm0.1, hm0.2, (hc5.undrew.bk K0c.out (by omega)).far (p := ⟨w2.heap.size, 1, none⟩) (by simp; omega) _, by simpa using hk, (hr5.set_new (by omega) _).more (by omega), (HB3.out.trans ((hc5.undrew.below (by omega)).mono (by omega))).setCell (by simp; omega) _, by have := hc5.size; simp at this ⊢; omega⟩
  case rest =>
    obtain ⟨d2, hd20, hd21, HK⟩ := hcut
    generalize wc = w4 at *
    clear c0 c1 f1 K0c K1 HB3 HR2
    have HR4 := Lib.hid HK.out.2.2.1
    have hz4 := HK.out.2.2.2.2
    have hgz4 : g < w4.heap.size := by omega
    go_wp2_with fail
    refine (l20Range_any g 20 _ HR4.out (by omega)).mono ?_
    rintro e w6 ⟨m, lo, hi, rfl, hm0, hm1, hlo0, hlo1, hhi0, hhi1, hr6, hc6⟩
    have K0 := Lib.hid (hc6.bk HK.out.1 (by omega))
    have K1 := Lib.hid (hc6.bk HK.out.2.1 (by omega))
    have HB6 : Hid (Below w.heap.size w w6) := HK.out.2.2.2.1.trans ((hc6.below (by omega)).mono (by omega))
    have HR6 := Lib.hid hr6
    have hz6 := hc6.size
    clear hr6 hc6 HK HR4
    have hgz6 := HR6.out.lt
    have hzk6 := K1.out.lt
    have c0 : w6.cell? ⟨w2.heap.size, 0, none⟩ = some (.int .i64 p) := by rw [K1.out.cell]; rfl
    have c1 : w6.cell? ⟨w2.heap.size, 1, none⟩ = some (.int .i64 d2) := by rw [K1.out.cell]; rfl
    have d0 : w6.cell? ⟨w.heap.size, 0, none⟩ = some (.int .i64 0) := by rw [K0.out.cell]; rfl
    have d1 : w6.cell? ⟨w.heap.size, 1, none⟩ = some (.int .i64 0) := by rw [K0.out.cell]; rfl
    have e0 := K0.out.frozen
    go_wp2_with fail
    go_region_held3 (fun w' => w'.cell? ⟨w2.heap.size, 0, none⟩ = some (.int .i64 p) ∧ w'.cell? ⟨w2.heap.size, 1, none⟩ = some (.int .i64 d2)) (simp [go_sem, World.cell?_alloc_past, *])
      (first
        | (go_at_call 32; (with_reducible refine (pick_any g (20 + 10) 12 _ (by with_reducible exact HR6.out.below (Below.drew (Below.refl _ _))) (by omega) (by omega)).mono ?_); rintro e w7 ⟨u, rfl, h0u, h1u, hr7, hc7⟩; have cB2 := Chg.cell hc7 (b := w2.heap.size) (by go_size) (by omega); have cB0 := Chg.cell hc7 (b := w.heap.size) (by go_size) (by omega); have fB0 := Chg.frozen hc7 (b := w.heap.size) (by go_size) (by omega); have zB0 : w2.heap.size < w7.heap.size := Nat.lt_of_lt_of_le (by go_size) hc7.size; have q1 : IntKind.i64.wrap (p + u) = p + u := IntWalk.i64_in _ (by omega))
        | (go_at_call 32; (with_reducible refine (pick_any g (20 + 10 + 1) 9 _ (by with_reducible exact hr7) (by omega) (by omega)).mono ?_); rintro e w8 ⟨v, rfl, h0v, h1v, hr8, hc8⟩; have cC2 := Chg.cell hc8 (b := w2.heap.size) (by go_size) (by omega); have cC0 := Chg.cell hc8 (b := w.heap.size) (by go_size) (by omega); have fC0 := Chg.frozen hc8 (b := w.heap.size) (by go_size) (by omega); have zC0 : w2.heap.size < w8.heap.size := Nat.lt_of_lt_of_le (by go_size) hc8.size; have q2 : v.tdiv 8 = v / 8 := Int.tdiv_eq_ediv_of_nonneg h0v; have q3 : IntKind.i64.wrap (p + u - v / 8) = p + u - v / 8 := IntWalk.i64_in _ (by omega); have q4 : IntKind.i64.wrap (v / 8) = v / 8 := IntWalk.i64_in _ (by omega)))
    all_goals
      have hBw : Below w.heap.size w w8 := HB6.out.trans (((hc7.undrew.trans hc8).below (by omega)).mono (by omega))
      have hq : 0 ≤ v / 8 ∧ v / 8 ≤ 1 := by omega
      go_wp2_with fail
      refine bodyPost_ret (by simp [results, Tryd.results20, go_sem, cB0, cC0, d0, d1, q1, q2, q3, q4]; try rfl) rfl ?_
      refine ⟨p + u - v / 8, p, d2, m, lo, hi, by first | rfl | (simp [q1, q2, q3, q4]; done), ⟨hp0, hp1, hd20, hd21⟩, by omega, by omega, hm0, hm1, hlo0, hlo1, hhi0, hhi1, ?_⟩
      have hqz := hBw.size
      clear hc7 hc8 hr7 hr8
      (repeat' (first | (with_reducible exact Below.refl _ _) | (with_reducible refine Below.alloc ?_ ?_ _) | (with_reducible refine Below.setCell ?_ ?_ _) | (with_reducible refine Below.drew ?_) | (refine Below.trans ?_ (Below.mono (by with_reducible assumption) ?_)) | go_size))

set_option maxRecDepth 100000 in
set_option maxHeartbeats 8000000 in
theorem fnLeastDial_any (A : Option Addr) (n c : Nat) (bs : List Int) (w : World) (hn : bs.length = n) (hb : ∀ x ∈ bs, U8 x) (hc : n ≤ c) (hcm : c ≤ maxLen) (hR : Reads 1 byteC w w.heap.size A bs) :
    Calls Tryd.prog 6 #[.slice A n c] w fun e w' => e = .returned (.bool true) ∧ Below w.heap.size w w' := by
  unfold maxLen at hcm
  subst hn
  have HR := Lib.hid hR; clear hR
  have HB := Lib.hid hb; clear hb
  have HB_w : Hid (Below w.heap.size w w) := Below.refl _ _
  have hbb : ∀ x : Bool, (x != x) = false := fun x => by simp
  have hnn : ∀ x : Int, (x != x) = false := fun x => by simp
  by_cases hl : ¬ bs.length ≤ 1048576
  · have hl' : (1048576 : Int) < bs.length := by omega
    go_enter Tryd.func6, Tryd.ntmps6
    go_wp2_with fail
    go_ret
    exact ⟨rfl, Below.refl _ _⟩
  have hl : bs.length ≤ 1048576 := by omega
  have hl' : ¬ (1048576 : Int) < bs.length := by omega
  go_enter Tryd.func6, Tryd.ntmps6
  go_wp2_with fail; ((with_reducible refine (drawLeastDial_any A c bs w HR.out HB.out hl hc hcm).mono ?_); rintro e w1 ⟨k, p, d, m, lo, hi, rfl, hs, hk0, hk1, hm0, hm1, hlo0, hlo1, hhi0, hhi1, hb_w1⟩); have HB_w1 : Hid (Below w.heap.size w w1) := HB_w.out.trans (hb_w1.mono HB_w.out.size); clear hb_w1
  clear hs
  obtain ⟨x, hx⟩ : ∃ x, leastDial k p d m lo hi = x := ⟨_, rfl⟩
  have hxb := leastDial_bd k p d m lo hi
  rw [hx] at hxb
  have hxb' : x = -1 ∨ (1 ≤ x ∧ x ≤ 60) := by rcases hxb with h | ⟨h1, h2, _⟩ <;> omega
  clear hxb
  have HI : Hid (∀ W : World, Calls Tryd.prog 21 #[.int .i64 k, .agg #[.int .i64 p, .int .i64 d], .int .i64 m, .int .i64 lo, .int .i64 hi] W fun e w' => e = .returned (.int .i64 x) ∧ Below W.heap.size W w') := fun W => by rw [← hx]; exact implLeastDial_any _ _ _ _ _ _ _
  have HS : Hid (∀ W : World, Calls Tryd.prog 22 #[.int .i64 k, .agg #[.int .i64 p, .int .i64 d], .int .i64 m, .int .i64 lo, .int .i64 hi] W fun e w' => e = .returned (.int .i64 x) ∧ Below W.heap.size W w') := fun W => by rw [← hx]; exact specLeastDial_any _ _ _ _ _ _ _
  have HG : Hid (∀ (dl : Int) (W : World), 1 ≤ dl → dl ≤ 60 → Calls Tryd.prog 23 #[.agg #[.int .i64 k, .int .i64 dl], .agg #[.int .i64 p, .int .i64 d], .int .i64 m, .int .i64 lo, .int .i64 hi] W fun e w' => e = .returned (.bool (decide (1 ≤ x) && decide (x ≤ dl))) ∧ Below W.heap.size W w') := fun dl W h1 h2 => by
    have := implGradeOk_any k dl p d m lo hi W
    rw [dial_law h1 h2, hx] at this
    exact this
  clear hx
  go_wp2_with fail; ((with_reducible refine (HI.out _).mono ?_); rintro e w2 ⟨rfl, hb_30⟩); have cB0_30 := keepB hb_30 (g := w1.heap.size) (by go_size); have fB0_30 := keepF hb_30 (g := w1.heap.size) (by go_size); have zB0_30 := keepZ hb_30 (g := w1.heap.size) (by go_size); have hz_30 := hb_30.size; (try simp only [World.size_alloc, World.size_setCell, World.size_drew] at hz_30)
  go_wp2_with fail; ((with_reducible refine (HS.out _).mono ?_); rintro e w3 ⟨rfl, hb_31⟩); have cB0_31 := keepB hb_31 (g := w1.heap.size) (by go_size); have fB0_31 := keepF hb_31 (g := w1.heap.size) (by go_size); have zB0_31 := keepZ hb_31 (g := w1.heap.size) (by go_size); have hz_31 := hb_31.size; (try simp only [World.size_alloc, World.size_setCell, World.size_drew] at hz_31)
  have HB3 : Hid (Below w.heap.size w w3) := by unfold Hid; have hq := HB_w1.out; have hqz := hq.size; (repeat' (first | (with_reducible exact Below.refl _ _) | (with_reducible refine Below.alloc ?_ ?_ _) | (with_reducible refine Below.setCell ?_ ?_ _) | (with_reducible refine Below.drew ?_) | (refine Below.trans ?_ (Below.mono (by with_reducible assumption) ?_)) | go_size))
  have K : Hid (Bk w3 w1.heap.size 24 #[.int .i64 p, .int .i64 d]) := ((Bk.new w1 _ _).keep hb_30).keep hb_31
  clear cB0_30 fB0_30 zB0_30 hb_30 hz_30 cB0_31 fB0_31 zB0_31 hb_31 hz_31
  go_wp2_with fail
  go_loopw [9] (fun t9 wr => ∃ dl : Int, t9 = .int .i64 dl ∧ 1 ≤ dl ∧ dl ≤ 61 ∧ Hid (Bk wr w1.heap.size 24 #[.int .i64 p, .int .i64 d]) ∧ Hid (Below w.heap.size w wr)) (fun t9 _ => (61 - intOf t9).toNat)
  case atStart => exact ⟨1, rfl, by omega, by omega, K, HB3⟩
  case round =>
    obtain ⟨dl, rfl, hl0, hl1, K2, HBr⟩ := hrel
    clear K HB3
    have cB := K2.out.cell
    have zB := K2.out.lt
    by_cases hdl : dl ≤ 60
    · have hcall := fun W => HG.out dl W hl0 hdl
      have hcs : (1 ≤ x ∧ x ≤ dl) ∨ (1 ≤ x ∧ dl < x) ∨ x < 1 := by omega
      rcases hcs with ⟨h1, h2⟩ | ⟨h1, h2⟩ | h1
      · have hb : (decide (1 ≤ x) && decide (x ≤ dl)) = true := by simp [h1, h2]
        rw [hb] at hcall
        have HCL := Lib.hid hcall; clear hcall hb
        go_wp2_with fail; ((with_reducible refine (HCL.out _).mono ?_); rintro e w4 ⟨rfl, hb_40⟩); have cB0_40 := keepB hb_40 (g := w1.heap.size) (by go_size); have fB0_40 := keepF hb_40 (g := w1.heap.size) (by go_size); have zB0_40 := keepZ hb_40 (g := w1.heap.size) (by go_size); have hz_40 := hb_40.size; (try simp only [World.size_alloc, World.size_setCell, World.size_drew] at hz_40)
        go_wp2_with fail
        all_goals try (exfalso; omega; done)
        exact ⟨⟨dl + 1, by go_num, by omega, by omega, K2.out.keep hb_40, HBr.out.trans (hb_40.mono HBr.out.size)⟩, by simp [intOf]; omega⟩
      · have hb : (decide (1 ≤ x) && decide (x ≤ dl)) = false := by have : ¬ x ≤ dl := by omega
                                                                    simp [this]
        rw [hb] at hcall
        have HCL := Lib.hid hcall; clear hcall hb
        have hb2 : decide (x ≤ dl) = false := decide_eq_false (by omega)
        go_wp2_with fail; ((with_reducible refine (HCL.out _).mono ?_); rintro e w4 ⟨rfl, hb_41⟩); have cB0_41 := keepB hb_41 (g := w1.heap.size) (by go_size); have fB0_41 := keepF hb_41 (g := w1.heap.size) (by go_size); have zB0_41 := keepZ hb_41 (g := w1.heap.size) (by go_size); have hz_41 := hb_41.size; (try simp only [World.size_alloc, World.size_setCell, World.size_drew] at hz_41)
        go_wp2_with fail
        all_goals try (exfalso; omega; done)
        exact ⟨⟨dl + 1, by go_num, by omega, by omega, K2.out.keep hb_41, HBr.out.trans (hb_41.mono HBr.out.size)⟩, by simp [intOf]; omega⟩
      · have hb : (decide (1 ≤ x) && decide (x ≤ dl)) = false := by have : ¬ 1 ≤ x := by omega
                                                                    simp [this]
        rw [hb] at hcall
        have HCL := Lib.hid hcall; clear hcall hb
        go_wp2_with fail; ((with_reducible refine (HCL.out _).mono ?_); rintro e w4 ⟨rfl, hb_42⟩); have cB0_42 := keepB hb_42 (g := w1.heap.size) (by go_size); have fB0_42 := keepF hb_42 (g := w1.heap.size) (by go_size); have zB0_42 := keepZ hb_42 (g := w1.heap.size) (by go_size); have hz_42 := hb_42.size; (try simp only [World.size_alloc, World.size_setCell, World.size_drew] at hz_42)
        go_wp2_with fail
        all_goals try (exfalso; omega; done)
        exact ⟨⟨dl + 1, by go_num, by omega, by omega, K2.out.keep hb_42, HBr.out.trans (hb_42.mono HBr.out.size)⟩, by simp [intOf]; omega⟩
    · rcases hxb' with hx1 | ⟨hx1, hx2⟩
      · have e1 : (x == -1) = true := by simp [hx1]
        clear hx1
        go_wp2_with fail; ((with_reducible refine (alive_any _).mono ?_); rintro e w4 ⟨rfl, hb_43⟩); have hz_43 := hb_43.size; (try simp only [World.size_alloc, World.size_setCell, World.size_drew] at hz_43)
        go_wp2_with fail
        go_ret
        exact ⟨rfl, HBr.out.trans (hb_43.mono HBr.out.size)⟩
      · have e1 : (x == -1) = false := by rw [beq_eq_false_iff_ne]; omega
        go_wp2_with fail; ((with_reducible refine (alive_any _).mono ?_); rintro e w4 ⟨rfl, hb_44⟩); have hz_44 := hb_44.size; (try simp only [World.size_alloc, World.size_setCell, World.size_drew] at hz_44)
        go_wp2_with fail
        all_goals try (exfalso; omega; done)
        go_ret
        exact ⟨rfl, HBr.out.trans (hb_44.mono HBr.out.size)⟩
end Go.Proofs.YtkndokcpnlbipaaDoor
