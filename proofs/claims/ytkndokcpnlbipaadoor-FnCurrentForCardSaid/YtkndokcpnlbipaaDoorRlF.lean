/- The laws FnRelayTime and FnCurrentFor: their walks. -/
import Derived.Test.YtkndokcpnlbipaaDoorRlE
namespace Go.Proofs.YtkndokcpnlbipaaDoor
open Go.RowKit Go.Deep
set_option linter.unusedSimpArgs false
set_option linter.unusedVariables false
set_option maxRecDepth 100000 in
set_option maxHeartbeats 8000000 in
theorem fnRelayTime_any (A : Option Addr) (n c : Nat) (bs : List Int) (w : World) (hn : bs.length = n) (hb : ∀ x ∈ bs, U8 x) (hc : n ≤ c) (hcm : c ≤ maxLen) (hR : Reads 1 byteC w w.heap.size A bs) :
    Calls Tryd.prog 3 #[.slice A n c] w fun e w' => e = .returned (.bool true) ∧ Below w.heap.size w w' := by
  unfold maxLen at hcm
  subst hn
  have HR := Lib.hid hR; clear hR
  have HB := Lib.hid hb; clear hb
  have HB_w : Hid (Below w.heap.size w w) := Below.refl _ _
  have hbb : ∀ x : Bool, (x != x) = false := fun x => by simp
  have hnn : ∀ x : Int, (x != x) = false := fun x => by simp
  by_cases hl : ¬ bs.length ≤ 1048576
  · have hl' : (1048576 : Int) < bs.length := by omega
    go_enter Tryd.func3, Tryd.ntmps3
    go_wp2_with fail
    go_ret
    exact ⟨rfl, Below.refl _ _⟩
  have hl : bs.length ≤ 1048576 := by omega
  have hl' : ¬ (1048576 : Int) < bs.length := by omega
  go_enter Tryd.func3, Tryd.ntmps3
  go_wp2_with fail; ((with_reducible refine (drawRelayTime_any A c bs w HR.out HB.out hl hc hcm).mono ?_); rintro e w1 ⟨p, d, x, rfl, hs, hx0, hx1, hb_w1⟩); have HB_w1 : Hid (Below w.heap.size w w1) := HB_w.out.trans (hb_w1.mono HB_w.out.size); clear hb_w1
  have hIp : I64 p := by unfold SmR at hs; unfold I64; omega
  have hIx : I64 x := by unfold I64; omega
  have HI := Lib.hid (And.intro hIp hIx); clear hIp hIx
  unfold SmR at hs
  obtain ⟨hp0, hp1, hd0, hd1⟩ := hs
  go_wp2_with fail; ((with_reducible refine (implRelayTime_any _ _ _ _).mono ?_); rintro e w2 ⟨rfl, hb_1⟩); have cB0_1 := keepB hb_1 (g := w1.heap.size) (by go_size); have fB0_1 := keepF hb_1 (g := w1.heap.size) (by go_size); have zB0_1 := keepZ hb_1 (g := w1.heap.size) (by go_size); have hz_1 := hb_1.size; (try simp only [World.size_alloc, World.size_setCell, World.size_drew] at hz_1)
  go_wp2_with fail; ((with_reducible refine (specRelayTime_any _ _ _ _ HI.out.1 HI.out.2).mono ?_); rintro e w3 ⟨rfl, hb_2⟩); have cB0_2 := keepB hb_2 (g := w1.heap.size) (by go_size); have fB0_2 := keepF hb_2 (g := w1.heap.size) (by go_size); have zB0_2 := keepZ hb_2 (g := w1.heap.size) (by go_size); have hz_2 := hb_2.size; (try simp only [World.size_alloc, World.size_setCell, World.size_drew] at hz_2)
  rcases srt_cases (p := p) (d := d) (c := x) with ⟨hP, hlt, h4, hEq, hT1, hT2⟩ | ⟨_, hT⟩
  · obtain ⟨_, _, t1, t2, t3, t4⟩ := time_law hP hlt h4
    clear hP hEq
    have hm1 : srt p d x * (x - p) ≤ 6000 * 400 := Int.le_trans (Int.mul_le_mul_of_nonneg_right (by omega) (by omega)) (Int.mul_le_mul_of_nonneg_left (by omega) (by omega))
    have hm0 : 0 ≤ srt p d x * (x - p) := Int.mul_nonneg (by omega) (by omega)
    have hn0 : 0 ≤ (srt p d x - 1) * (x - p) := Int.mul_nonneg (by omega) (by omega)
    generalize hTT : srt p d x = T at *
    have HTT := Lib.hid hTT; clear hTT
    have e1 : wrap64 (T * (x - p)) = T * (x - p) := by unfold wrap64; omega
    have e2 : wrap64 ((T - 1) * (x - p)) = (T - 1) * (x - p) := by unfold wrap64; omega
    have i1 : IntKind.i64.wrap (T * (x - p)) = T * (x - p) := IntWalk.i64_in _ (by omega)
    have i2 : IntKind.i64.wrap ((T - 1) * (x - p)) = (T - 1) * (x - p) := IntWalk.i64_in _ (by omega)
    generalize hy1 : srt p d (x + 1) = Y1 at *
    generalize hy2 : srt p (d + 1) x = Y2 at *
    have hc1 : Hid (∀ W : World, Calls Tryd.prog 10 #[.agg #[.int .i64 p, .int .i64 d], .int .i64 (x + 1)] W fun e w' => e = .returned (.int .i64 Y1) ∧ Below W.heap.size W w') := fun W => by rw [← hy1]; exact implRelayTime_any _ _ _ _
    have hc2 : Hid (∀ W : World, Calls Tryd.prog 10 #[.agg #[.int .i64 p, .int .i64 (d + 1)], .int .i64 x] W fun e w' => e = .returned (.int .i64 Y2) ∧ Below W.heap.size W w') := fun W => by rw [← hy2]; exact implRelayTime_any _ _ _ _
    clear hy1 hy2
    have HB3 : Hid (Below w.heap.size w w3) := by unfold Hid; have hq := HB_w1.out; have hqz := hq.size; (repeat' (first | (with_reducible exact Below.refl _ _) | (with_reducible refine Below.alloc ?_ ?_ _) | (with_reducible refine Below.setCell ?_ ?_ _) | (with_reducible refine Below.drew ?_) | (refine Below.trans ?_ (Below.mono (by with_reducible assumption) ?_)) | go_size))
    by_cases hx4 : x < 400
    · have q1 := t3 hx4
      clear t3
      by_cases hd6 : d < 60
      · have q2 := t4 hd6
        clear t4
        go_wp2_with fail; ((with_reducible refine (hc1.out _).mono ?_); rintro e w4 ⟨rfl, hb_3⟩); have cB0_3 := keepB hb_3 (g := w1.heap.size) (by go_size); have fB0_3 := keepF hb_3 (g := w1.heap.size) (by go_size); have zB0_3 := keepZ hb_3 (g := w1.heap.size) (by go_size); have hz_3 := hb_3.size; (try simp only [World.size_alloc, World.size_setCell, World.size_drew] at hz_3)
        go_wp2_with fail; ((with_reducible refine (hc2.out _).mono ?_); rintro e w5 ⟨rfl, hb_4⟩); have cB0_4 := keepB hb_4 (g := w1.heap.size) (by go_size); have fB0_4 := keepF hb_4 (g := w1.heap.size) (by go_size); have zB0_4 := keepZ hb_4 (g := w1.heap.size) (by go_size); have hz_4 := hb_4.size; (try simp only [World.size_alloc, World.size_setCell, World.size_drew] at hz_4)
        go_wp2_with fail
        all_goals try (exfalso; omega; done)
        go_ret
        refine ⟨rfl, ?_⟩
        have hq := HB3.out; have hqz := hq.size; clear hb_1 hb_2; (repeat' (first | (with_reducible exact Below.refl _ _) | (with_reducible refine Below.alloc ?_ ?_ _) | (with_reducible refine Below.setCell ?_ ?_ _) | (with_reducible refine Below.drew ?_) | (refine Below.trans ?_ (Below.mono (by with_reducible assumption) ?_)) | go_size))
      · clear t4
        have hd6' : 60 ≤ d := by omega
        go_wp2_with fail; ((with_reducible refine (hc1.out _).mono ?_); rintro e w4 ⟨rfl, hb_5⟩); have cB0_5 := keepB hb_5 (g := w1.heap.size) (by go_size); have fB0_5 := keepF hb_5 (g := w1.heap.size) (by go_size); have zB0_5 := keepZ hb_5 (g := w1.heap.size) (by go_size); have hz_5 := hb_5.size; (try simp only [World.size_alloc, World.size_setCell, World.size_drew] at hz_5)
        go_wp2_with fail
        all_goals try (exfalso; omega; done)
        go_ret
        refine ⟨rfl, ?_⟩
        have hq := HB3.out; have hqz := hq.size; clear hb_1 hb_2; (repeat' (first | (with_reducible exact Below.refl _ _) | (with_reducible refine Below.alloc ?_ ?_ _) | (with_reducible refine Below.setCell ?_ ?_ _) | (with_reducible refine Below.drew ?_) | (refine Below.trans ?_ (Below.mono (by with_reducible assumption) ?_)) | go_size))
    · clear t3
      have hx4' : 400 ≤ x := by omega
      by_cases hd6 : d < 60
      · have q2 := t4 hd6
        clear t4
        go_wp2_with fail; ((with_reducible refine (hc2.out _).mono ?_); rintro e w5 ⟨rfl, hb_6⟩); have cB0_6 := keepB hb_6 (g := w1.heap.size) (by go_size); have fB0_6 := keepF hb_6 (g := w1.heap.size) (by go_size); have zB0_6 := keepZ hb_6 (g := w1.heap.size) (by go_size); have hz_6 := hb_6.size; (try simp only [World.size_alloc, World.size_setCell, World.size_drew] at hz_6)
        go_wp2_with fail
        all_goals try (exfalso; omega; done)
        go_ret
        refine ⟨rfl, ?_⟩
        have hq := HB3.out; have hqz := hq.size; clear hb_1 hb_2; (repeat' (first | (with_reducible exact Below.refl _ _) | (with_reducible refine Below.alloc ?_ ?_ _) | (with_reducible refine Below.setCell ?_ ?_ _) | (with_reducible refine Below.drew ?_) | (refine Below.trans ?_ (Below.mono (by with_reducible assumption) ?_)) | go_size))
      · clear t4
        have hd6' : 60 ≤ d := by omega
        go_wp2_with fail
        all_goals try (exfalso; omega; done)
        go_ret
        refine ⟨rfl, ?_⟩
        have hq := HB3.out; have hqz := hq.size; clear hb_1 hb_2; (repeat' (first | (with_reducible exact Below.refl _ _) | (with_reducible refine Below.alloc ?_ ?_ _) | (with_reducible refine Below.setCell ?_ ?_ _) | (with_reducible refine Below.drew ?_) | (refine Below.trans ?_ (Below.mono (by with_reducible assumption) ?_)) | go_size))
  · rw [hT]
    go_wp2_with fail; ((with_reducible refine (alive_any _).mono ?_); rintro e w4 ⟨rfl, hb_7⟩); have hz_7 := hb_7.size; (try simp only [World.size_alloc, World.size_setCell, World.size_drew] at hz_7)
    go_wp2_with fail
    go_ret
    refine ⟨rfl, ?_⟩
    have hq := HB_w1.out; have hqz := hq.size; (repeat' (first | (with_reducible exact Below.refl _ _) | (with_reducible refine Below.alloc ?_ ?_ _) | (with_reducible refine Below.setCell ?_ ?_ _) | (with_reducible refine Below.drew ?_) | (refine Below.trans ?_ (Below.mono (by with_reducible assumption) ?_)) | go_size))

set_option maxRecDepth 100000 in
set_option maxHeartbeats 8000000 in
theorem fnCurrentFor_any (A : Option Addr) (n c : Nat) (bs : List Int) (w : World) (hn : bs.length = n) (hb : ∀ x ∈ bs, U8 x) (hc : n ≤ c) (hcm : c ≤ maxLen) (hR : Reads 1 byteC w w.heap.size A bs) :
    Calls Tryd.prog 4 #[.slice A n c] w fun e w' => e = .returned (.bool true) ∧ Below w.heap.size w w' := by
  unfold maxLen at hcm
  subst hn
  have HR := Lib.hid hR; clear hR
  have HB := Lib.hid hb; clear hb
  have HB_w : Hid (Below w.heap.size w w) := Below.refl _ _
  have hbb : ∀ x : Bool, (x != x) = false := fun x => by simp
  have hnn : ∀ x : Int, (x != x) = false := fun x => by simp
  by_cases hl : ¬ bs.length ≤ 1048576
  · have hl' : (1048576 : Int) < bs.length := by omega
    go_enter Tryd.func4, Tryd.ntmps4
    go_wp2_with fail
    go_ret
    exact ⟨rfl, Below.refl _ _⟩
  have hl : bs.length ≤ 1048576 := by omega
  have hl' : ¬ (1048576 : Int) < bs.length := by omega
  go_enter Tryd.func4, Tryd.ntmps4
  go_wp2_with fail; ((with_reducible refine (drawCurrentFor_any A c bs w HR.out HB.out hl hc hcm).mono ?_); rintro e w1 ⟨p, d, t, rfl, hs, hx0, hx1, hb_w1⟩); have HB_w1 : Hid (Below w.heap.size w w1) := HB_w.out.trans (hb_w1.mono HB_w.out.size); clear hb_w1
  have hIp : I64 p := by unfold SmR at hs; unfold I64; omega
  have HI := Lib.hid hIp; clear hIp
  unfold SmR at hs
  obtain ⟨hp0, hp1, hd0, hd1⟩ := hs
  go_wp2_with fail; ((with_reducible refine (implCurrentFor_any _ _ _ _).mono ?_); rintro e w2 ⟨x, rfl, hx, hb_20⟩); have cB0_20 := keepB hb_20 (g := w1.heap.size) (by go_size); have fB0_20 := keepF hb_20 (g := w1.heap.size) (by go_size); have zB0_20 := keepZ hb_20 (g := w1.heap.size) (by go_size); have hz_20 := hb_20.size; (try simp only [World.size_alloc, World.size_setCell, World.size_drew] at hz_20)
  go_wp2_with fail; ((with_reducible refine (specCurrentFor_any _ _ _ _ HI.out).mono ?_); rintro e w3 ⟨y, rfl, hy, hb_21⟩); have cB0_21 := keepB hb_21 (g := w1.heap.size) (by go_size); have fB0_21 := keepF hb_21 (g := w1.heap.size) (by go_size); have zB0_21 := keepZ hb_21 (g := w1.heap.size) (by go_size); have hz_21 := hb_21.size; (try simp only [World.size_alloc, World.size_setCell, World.size_drew] at hz_21)
  obtain rfl : x = y := hx.uniq hy
  have hxb := hx.bd
  obtain ⟨hxb0, hxb1⟩ := hxb
  have HX := Lib.hid hx; clear hx hy
  have HB3 : Hid (Below w.heap.size w w3) := by unfold Hid; have hq := HB_w1.out; have hqz := hq.size; (repeat' (first | (with_reducible exact Below.refl _ _) | (with_reducible refine Below.alloc ?_ ?_ _) | (with_reducible refine Below.setCell ?_ ?_ _) | (with_reducible refine Below.drew ?_) | (refine Below.trans ?_ (Below.mono (by with_reducible assumption) ?_)) | go_size))
  have K : Hid (Bk w3 w1.heap.size 24 #[.int .i64 p, .int .i64 d]) := ((Bk.new w1 _ _).keep hb_20).keep hb_21
  clear cB0_20 fB0_20 zB0_20 hb_20 hz_20 cB0_21 fB0_21 zB0_21 hb_21 hz_21
  go_wp2_with fail
  go_loopw [6] (fun t6 wr => ∃ k : Int, t6 = .int .i64 k ∧ 0 ≤ k ∧ k ≤ 401 ∧ Hid (Bk wr w1.heap.size 24 #[.int .i64 p, .int .i64 d]) ∧ Hid (Below w.heap.size w wr)) (fun t6 _ => (401 - intOf t6).toNat)
  case atStart => exact ⟨0, rfl, by omega, by omega, K, HB3⟩
  case round =>
    obtain ⟨k, rfl, hk0, hk1, K2, HBr⟩ := hrel
    clear K HB3
    have cB := K2.out.cell
    have zB := K2.out.lt
    by_cases hk : k ≤ 400
    · have hlaw := HX.out.law hk
      go_wp2_with fail; ((with_reducible refine (implRelayTime_any _ _ _ _).mono ?_); rintro e w4 ⟨rfl, hb_22⟩); have cB0_22 := keepB hb_22 (g := w1.heap.size) (by go_size); have fB0_22 := keepF hb_22 (g := w1.heap.size) (by go_size); have zB0_22 := keepZ hb_22 (g := w1.heap.size) (by go_size); have hz_22 := hb_22.size; (try simp only [World.size_alloc, World.size_setCell, World.size_drew] at hz_22)
      have hsb := srt_bd (p := p) (d := d) (c := k)
      generalize srt p d k = T at *
      have K4 := Lib.hid (K2.out.keep hb_22)
      have HB4 : Hid (Below w.heap.size w w4) := HBr.out.trans (hb_22.mono HBr.out.size)
      by_cases hq : 0 ≤ T ∧ T ≤ t
      · obtain ⟨q1, q2⟩ := hlaw.1 hq
        obtain ⟨q3, q4⟩ := hq
        clear hlaw
        go_wp2_with fail
        all_goals try (exfalso; omega; done)
        exact ⟨⟨k + 1, by go_num, by omega, by omega, K4, HB4⟩, by simp [intOf]; omega⟩
      · have hq2 : ¬ (0 ≤ x ∧ x ≤ k) := fun h => hq (hlaw.2 h)
        have h1 : T < 0 ∨ (0 ≤ T ∧ t < T) := by omega
        have h2 : x < 0 ∨ (0 ≤ x ∧ k < x) := by omega
        clear hlaw hq hq2
        rcases h1 with h1 | ⟨h1, h1'⟩ <;> rcases h2 with h2 | ⟨h2, h2'⟩
        all_goals
          try have hb1 : decide (T ≤ t) = false := decide_eq_false (by omega)
          try have hb2 : decide (x ≤ k) = false := decide_eq_false (by omega)
          go_wp2_with fail
          all_goals try (exfalso; omega; done)
          all_goals try (exfalso; simp_all; done)
          all_goals exact ⟨⟨k + 1, by go_num, by omega, by omega, K4, HB4⟩, by simp [intOf]; omega⟩
    · go_wp2_with fail; ((with_reducible refine (alive_any _).mono ?_); rintro e w4 ⟨rfl, hb_23⟩); have hz_23 := hb_23.size; (try simp only [World.size_alloc, World.size_setCell, World.size_drew] at hz_23)
      go_wp2_with fail
      go_ret
      refine ⟨rfl, ?_⟩
      have hq := HBr.out; have hqz := hq.size; (repeat' (first | (with_reducible exact Below.refl _ _) | (with_reducible refine Below.alloc ?_ ?_ _) | (with_reducible refine Below.setCell ?_ ?_ _) | (with_reducible refine Below.drew ?_) | (refine Below.trans ?_ (Below.mono (by with_reducible assumption) ?_)) | go_size))
end Go.Proofs.YtkndokcpnlbipaaDoor
