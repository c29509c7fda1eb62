/- Relays: times and the least current, the program's and the reference's. -/
import Derived.Test.YtkndokcpnlbipaaDoorRlP
namespace Go.Proofs.YtkndokcpnlbipaaDoor
open Go.RowKit
set_option linter.unusedSimpArgs false
set_option linter.unusedVariables false
theorem implRelayTime_any (p d c : Int) (w : World) :
    Calls Tryd.prog 10 #[.agg #[.int .i64 p, .int .i64 d], .int .i64 c] w fun e w' => e = .returned (.int .i64 (srt p d c)) ∧ Below w.heap.size w w' := by
  by_cases hv : RelP p d
  · have hv' := relV_t.2 hv
    by_cases hc : 0 ≤ c ∧ c ≤ 400
    · have hcv : inB c 0 400 = true := inB_t.2 hc
      rw [srt_in hv hc.2]
      have HV := Lib.hid hv; clear hv
      obtain ⟨hc0, hc4⟩ := hc
      go_enter Tryd.func10, Tryd.ntmps10
      go_wp2_with (first | (go_at_call 19; refine (implRelayValid_any _ _ _).mono ?_; rintro e w1 ⟨rfl, hb⟩; have cB0 := keepB hb (g := w.heap.size) (by go_size); have fB0 := keepF hb (g := w.heap.size) (by go_size); have zB0 := keepZ hb (g := w.heap.size) (by go_size); have hz := hb.size; (try simp only [World.size_alloc, World.size_setCell, World.size_drew] at hz)) | (go_at_call 34; refine (currentValid_any _ _).mono ?_; rintro e w' ⟨rfl, rfl⟩))
      go_wp2_with fail; ((with_reducible refine (time_any _ _ _ _ HV.out hc0 hc4).mono ?_); rintro e w2 ⟨rfl, hb_1⟩); have hz_1 := hb_1.size; (try simp only [World.size_alloc, World.size_setCell, World.size_drew] at hz_1)
      go_wp2_with fail
      go_ret
      refine ⟨rfl, ?_⟩; (repeat' (first | (with_reducible exact Below.refl _ _) | (with_reducible refine Below.alloc ?_ ?_ _) | (with_reducible refine Below.setCell ?_ ?_ _) | (with_reducible refine Below.drew ?_) | (refine Below.trans ?_ (Below.mono (by with_reducible assumption) ?_)) | go_size))
    · have hcv : inB c 0 400 = false := inB_f.2 hc
      have e : srt p d c = -1 := by
        unfold srt RelP at *
        rw [if_neg]; omega
      rw [e]
      clear hc e hv
      go_enter Tryd.func10, Tryd.ntmps10
      go_wp2_with (first | (go_at_call 19; refine (implRelayValid_any _ _ _).mono ?_; rintro e w1 ⟨rfl, hb⟩; have cB0 := keepB hb (g := w.heap.size) (by go_size); have fB0 := keepF hb (g := w.heap.size) (by go_size); have zB0 := keepZ hb (g := w.heap.size) (by go_size); have hz := hb.size; (try simp only [World.size_alloc, World.size_setCell, World.size_drew] at hz)) | (go_at_call 34; refine (currentValid_any _ _).mono ?_; rintro e w' ⟨rfl, rfl⟩))
      go_ret
      refine ⟨rfl, ?_⟩; (repeat' (first | (with_reducible exact Below.refl _ _) | (with_reducible refine Below.alloc ?_ ?_ _) | (with_reducible refine Below.setCell ?_ ?_ _) | (with_reducible refine Below.drew ?_) | (refine Below.trans ?_ (Below.mono (by with_reducible assumption) ?_)) | go_size))
  · have hv' := relV_f.2 hv
    have e : srt p d c = -1 := by unfold srt; rw [if_neg (fun h => hv h.1)]
    rw [e]
    clear e hv
    go_enter Tryd.func10, Tryd.ntmps10
    go_wp2_with (first | (go_at_call 19; refine (implRelayValid_any _ _ _).mono ?_; rintro e w1 ⟨rfl, hb⟩; have cB0 := keepB hb (g := w.heap.size) (by go_size); have fB0 := keepF hb (g := w.heap.size) (by go_size); have zB0 := keepZ hb (g := w.heap.size) (by go_size); have hz := hb.size; (try simp only [World.size_alloc, World.size_setCell, World.size_drew] at hz)))
    go_ret
    refine ⟨rfl, ?_⟩; (repeat' (first | (with_reducible exact Below.refl _ _) | (with_reducible refine Below.alloc ?_ ?_ _) | (with_reducible refine Below.setCell ?_ ?_ _) | (with_reducible refine Below.drew ?_) | (refine Below.trans ?_ (Below.mono (by with_reducible assumption) ?_)) | go_size))
def RetCur (w : World) (p d t : Int) (e : Ending) (w' : World) : Prop := ∃ x : Int, e = .returned (.int .i64 x) ∧ CurIs p d t x ∧ Below w.heap.size w w'
set_option maxHeartbeats 1000000 in
theorem implCurrentFor_any (p d t : Int) (w : World) :
    Calls Tryd.prog 14 #[.agg #[.int .i64 p, .int .i64 d], .int .i64 t] w (RetCur w p d t) := by
  by_cases hv : RelP p d
  · have hv' := relV_t.2 hv
    have hp := hv
    unfold RelP at hp
    have HV := Lib.hid hv; clear hv
    obtain ⟨hp1, hp2, _, _⟩ := hp
    go_enter Tryd.func14, Tryd.ntmps14
    go_wp2_with fail; ((with_reducible refine (implRelayValid_any _ _ _).mono ?_); rintro e w1 ⟨rfl, hb_2⟩); have cB0_2 := keepB hb_2 (g := w.heap.size) (by go_size); have fB0_2 := keepF hb_2 (g := w.heap.size) (by go_size); have zB0_2 := keepZ hb_2 (g := w.heap.size) (by go_size); have hz_2 := hb_2.size; (try simp only [World.size_alloc, World.size_setCell, World.size_drew] at hz_2)
    have HK : Hid (Bk w1 w.heap.size 24 #[.int .i64 p, .int .i64 d]) := (Bk.new w _ _).keep hb_2
    have HB1 : Hid (Below w.heap.size w w1) := by unfold Hid; (repeat' (first | (with_reducible exact Below.refl _ _) | (with_reducible refine Below.alloc ?_ ?_ _) | (with_reducible refine Below.setCell ?_ ?_ _) | (with_reducible refine Below.drew ?_) | (refine Below.trans ?_ (Below.mono (by with_reducible assumption) ?_)) | go_size))
    clear fB0_2 zB0_2 hb_2 hz_2
    go_wp2_with fail
    clear cB0_2
    go_loopw [5] (fun t5 wr => ∃ k : Int, t5 = .int .i64 k ∧ p + 1 ≤ k ∧ k ≤ 401 ∧ Hid (∀ c, c < k → ¬ CurQ p d t c) ∧ Hid (Bk wr w.heap.size 24 #[.int .i64 p, .int .i64 d]) ∧ Hid (Below w.heap.size w wr)) (fun t5 _ => (401 - intOf t5).toNat)
    case atStart =>
      refine ⟨p + 1, rfl, by omega, by omega, fun c hc hq => ?_, HK, HB1⟩
      unfold CurQ at hq
      rcases srt_cases (p := p) (d := d) (c := c) with ⟨_, h2, _⟩ | ⟨_, h2⟩ <;> omega
    case round =>
      obtain ⟨k, rfl, hk0, hk1, HN, HK2, HBr⟩ := hrel
      clear HK HB1
      have cB := HK2.out.cell
      have zB := HK2.out.lt
      by_cases hk : k ≤ 400
      · go_wp2_with fail; ((with_reducible refine (time_any _ _ _ _ HV.out (by omega) hk).mono ?_); rintro e w2 ⟨rfl, hb_3⟩); have cB0_3 := keepB hb_3 (g := w.heap.size) (by go_size); have fB0_3 := keepF hb_3 (g := w.heap.size) (by go_size); have zB0_3 := keepZ hb_3 (g := w.heap.size) (by go_size); have hz_3 := hb_3.size; (try simp only [World.size_alloc, World.size_setCell, World.size_drew] at hz_3)
        have hsr := srt_in HV.out hk
        have hpos := rtime_pos HV.out (c := k) (by omega)
        by_cases ht : rtime p d k ≤ t
        · go_wp2_with fail
          go_ret
          refine ⟨k, rfl, .inr ⟨by omega, hk, ⟨by omega, by omega⟩, HN.out⟩, ?_⟩
          have hq := HBr.out; have hqz := hq.size; (repeat' (first | (with_reducible exact Below.refl _ _) | (with_reducible refine Below.alloc ?_ ?_ _) | (with_reducible refine Below.setCell ?_ ?_ _) | (with_reducible refine Below.drew ?_) | (refine Below.trans ?_ (Below.mono (by with_reducible assumption) ?_)) | go_size))
        · have hnq : Hid (∀ c, c < k + 1 → ¬ CurQ p d t c) := by
            intro c hc hq
            by_cases e : c = k
            · subst e; unfold CurQ at hq; omega
            · exact HN.out c (by omega) hq
          have ht' : t < rtime p d k := by omega
          clear ht hsr
          go_wp2_with fail
          refine ⟨⟨k + 1, by go_num, by omega, by omega, hnq, HK2.out.keep hb_3, ?_⟩, by simp [intOf]; omega⟩
          unfold Hid
          have hq := HBr.out; have hqz := hq.size; (repeat' (first | (with_reducible exact Below.refl _ _) | (with_reducible refine Below.alloc ?_ ?_ _) | (with_reducible refine Below.setCell ?_ ?_ _) | (with_reducible refine Below.drew ?_) | (refine Below.trans ?_ (Below.mono (by with_reducible assumption) ?_)) | go_size))
      · go_wp2_with fail
        go_ret
        refine ⟨-1, rfl, .inl ⟨rfl, fun c hq => ?_⟩, HBr.out⟩
        by_cases hc : c < k
        · exact HN.out c hc hq
        · unfold CurQ at hq
          rcases srt_cases (p := p) (d := d) (c := c) with ⟨_, _, h2, _⟩ | ⟨_, h2⟩ <;> omega
  · have hv' := relV_f.2 hv
    have hno : Hid (CurIs p d t (-1)) := .inl ⟨rfl, fun c hq => by
      unfold CurQ at hq
      rcases srt_cases (p := p) (d := d) (c := c) with ⟨h2, _⟩ | ⟨_, h2⟩
      · exact hv h2
      · omega⟩
    clear hv
    go_enter Tryd.func14, Tryd.ntmps14
    go_wp2_with (first | (go_at_call 19; refine (implRelayValid_any _ _ _).mono ?_; rintro e w1 ⟨rfl, hb⟩; have cB0 := keepB hb (g := w.heap.size) (by go_size); have fB0 := keepF hb (g := w.heap.size) (by go_size); have zB0 := keepZ hb (g := w.heap.size) (by go_size); have hz := hb.size; (try simp only [World.size_alloc, World.size_setCell, World.size_drew] at hz)))
    go_ret
    refine ⟨-1, rfl, hno.out, ?_⟩; (repeat' (first | (with_reducible exact Below.refl _ _) | (with_reducible refine Below.alloc ?_ ?_ _) | (with_reducible refine Below.setCell ?_ ?_ _) | (with_reducible refine Below.drew ?_) | (refine Below.trans ?_ (Below.mono (by with_reducible assumption) ?_)) | go_size))
set_option maxHeartbeats 1000000 in
theorem specCurrentFor_any (p d t : Int) (w : World) (hp : I64 p) :
    Calls Tryd.prog 15 #[.agg #[.int .i64 p, .int .i64 d], .int .i64 t] w (RetCur w p d t) := by
  have HP := Lib.hid hp; clear hp
  go_enter Tryd.func15, Tryd.ntmps15
  go_wp2_with fail
  go_loopw [5] (fun t5 wr => ∃ k : Int, t5 = .int .i64 k ∧ 0 ≤ k ∧ k ≤ 401 ∧ Hid (∀ c, c < k → ¬ CurQ p d t c) ∧ Hid (Bk wr w.heap.size 24 #[.int .i64 p, .int .i64 d]) ∧ Hid (Below w.heap.size w wr)) (fun t5 _ => (401 - intOf t5).toNat)
  case atStart =>
    refine ⟨0, rfl, by omega, by omega, fun c hc hq => ?_, Bk.new _ _ _, by unfold Hid; (repeat' (first | (with_reducible exact Below.refl _ _) | (with_reducible refine Below.alloc ?_ ?_ _) | (with_reducible refine Below.setCell ?_ ?_ _) | (with_reducible refine Below.drew ?_) | (refine Below.trans ?_ (Below.mono (by with_reducible assumption) ?_)) | go_size))⟩
    unfold CurQ at hq
    rcases srt_cases (p := p) (d := d) (c := c) with ⟨h1, h2, _⟩ | ⟨_, h2⟩
    · unfold RelP at h1; omega
    · omega
  case round =>
    obtain ⟨k, rfl, hk0, hk1, HN, HK2, HBr⟩ := hrel
    have cB := HK2.out.cell
    have zB := HK2.out.lt
    by_cases hk : k ≤ 400
    · have hI : I64 k := by unfold I64; omega
      go_wp2_with fail; ((with_reducible refine (specRelayTime_any _ _ _ _ HP.out hI).mono ?_); rintro e w2 ⟨rfl, hb_4⟩); have cB0_4 := keepB hb_4 (g := w.heap.size) (by go_size); have fB0_4 := keepF hb_4 (g := w.heap.size) (by go_size); have zB0_4 := keepZ hb_4 (g := w.heap.size) (by go_size); have hz_4 := hb_4.size; (try simp only [World.size_alloc, World.size_setCell, World.size_drew] at hz_4)
      by_cases ht : CurQ p d t k
      · have ht2 := ht
        unfold CurQ at ht2
        obtain ⟨q1, q2⟩ := ht2
        have HT := Lib.hid ht; clear ht
        go_wp2_with fail
        go_ret
        refine ⟨k, rfl, .inr ⟨by omega, hk, HT.out, HN.out⟩, ?_⟩
        have hq := HBr.out; have hqz := hq.size; (repeat' (first | (with_reducible exact Below.refl _ _) | (with_reducible refine Below.alloc ?_ ?_ _) | (with_reducible refine Below.setCell ?_ ?_ _) | (with_reducible refine Below.drew ?_) | (refine Below.trans ?_ (Below.mono (by with_reducible assumption) ?_)) | go_size))
      · have hnq : Hid (∀ c, c < k + 1 → ¬ CurQ p d t c) := by
          intro c hc hq
          by_cases e : c = k
          · subst e; exact ht hq
          · exact HN.out c (by omega) hq
        unfold CurQ at ht
        have HT := Lib.hid ht; clear ht
        go_wp2_with fail
        all_goals try (exfalso; exact HT.out ⟨by omega, by omega⟩)
        all_goals
          refine ⟨⟨k + 1, by go_num, by omega, by omega, hnq, HK2.out.keep hb_4, ?_⟩, by simp [intOf]; omega⟩
          unfold Hid
          have hq := HBr.out; have hqz := hq.size; (repeat' (first | (with_reducible exact Below.refl _ _) | (with_reducible refine Below.alloc ?_ ?_ _) | (with_reducible refine Below.setCell ?_ ?_ _) | (with_reducible refine Below.drew ?_) | (refine Below.trans ?_ (Below.mono (by with_reducible assumption) ?_)) | go_size))
    · go_wp2_with fail
      go_ret
      refine ⟨-1, rfl, .inl ⟨rfl, fun c hq => ?_⟩, HBr.out⟩
      by_cases hc : c < k
      · exact HN.out c hc hq
      · unfold CurQ at hq
        rcases srt_cases (p := p) (d := d) (c := c) with ⟨_, _, h2, _⟩ | ⟨_, h2⟩ <;> omega
end Go.Proofs.YtkndokcpnlbipaaDoor
