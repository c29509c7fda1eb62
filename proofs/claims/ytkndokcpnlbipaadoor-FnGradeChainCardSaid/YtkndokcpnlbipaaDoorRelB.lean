/- Relays: grading. -/
import Derived.Test.YtkndokcpnlbipaaDoorRelA
import Derived.Deep.RegionHeld3
import Derived.Deep.DeepCutAuto
namespace Go.Proofs.YtkndokcpnlbipaaDoor
open Go.RowKit
set_option linter.unusedSimpArgs false
set_option linter.unusedVariables false

def GradeP (np nd fp fd m lo hi : Int) : Prop := RelP np nd ∧ RelP fp fd ∧ (1 ≤ m ∧ m ≤ 400) ∧ (0 ≤ lo ∧ lo ≤ hi ∧ hi ≤ 400) ∧ fp ≤ np ∧ ∀ c, lo ≤ c → c ≤ hi → np < c → rtime fp fd c + m ≤ rtime np nd c
noncomputable def gradeB (np nd fp fd m lo hi : Int) : Bool := @decide (GradeP np nd fp fd m lo hi) (Classical.propDecidable _)
theorem gradeB_t {np nd fp fd m lo hi : Int} : gradeB np nd fp fd m lo hi = true ↔ GradeP np nd fp fd m lo hi := by simp [gradeB]
theorem gradeB_f {np nd fp fd m lo hi : Int} : gradeB np nd fp fd m lo hi = false ↔ ¬ GradeP np nd fp fd m lo hi := by simp [gradeB]

/-- All but the times. -/
def GradeH (np nd fp fd m lo hi : Int) : Prop := RelP np nd ∧ RelP fp fd ∧ (1 ≤ m ∧ m ≤ 400) ∧ (0 ≤ lo ∧ lo ≤ hi ∧ hi ≤ 400) ∧ fp ≤ np

set_option maxHeartbeats 2000000 in
theorem implGradeOk_any (np nd fp fd m lo hi : Int) (w : World) :
    Calls Tryd.prog 23 #[.agg #[.int .i64 np, .int .i64 nd], .agg #[.int .i64 fp, .int .i64 fd], .int .i64 m, .int .i64 lo, .int .i64 hi] w fun e w' => e = .returned (.bool (gradeB np nd fp fd m lo hi)) ∧ Below w.heap.size w w' := by
  generalize hR : gradeB np nd fp fd m lo hi = R
  by_cases hH : GradeH np nd fp fd m lo hi
  · obtain ⟨hn, hf, ⟨hm1, hm2⟩, ⟨hl0, hlh, hh⟩, hpp⟩ := hH
    have hnv := relV_t.2 hn
    have hfv := relV_t.2 hf
    have il : inB lo 0 400 = true := inB_t.2 (by omega)
    have ih : inB hi 0 400 = true := inB_t.2 (by omega)
    have hn2 := hn
    unfold RelP at hn2
    obtain ⟨hn21, hn22, _, _⟩ := hn2
    have HR := Lib.hid hR; clear hR
    go_enter Tryd.func23, Tryd.ntmps23
    go_wp2_with fail; ((with_reducible refine (implRelayValid_any _ _ _).mono ?_); rintro e w1 ⟨rfl, hb_1⟩); have cB0_1 := keepB hb_1 (g := w.heap.size) (by go_size); have fB0_1 := keepF hb_1 (g := w.heap.size) (by go_size); have zB0_1 := keepZ hb_1 (g := w.heap.size) (by go_size); have cB1_1 := keepB hb_1 (g := w.heap.size + 1) (by go_size); have fB1_1 := keepF hb_1 (g := w.heap.size + 1) (by go_size); have zB1_1 := keepZ hb_1 (g := w.heap.size + 1) (by go_size); have hz_1 := hb_1.size; (try simp only [World.size_alloc, World.size_setCell, World.size_drew] at hz_1)
    go_wp2_with fail; ((with_reducible refine (implRelayValid_any _ _ _).mono ?_); rintro e w2 ⟨rfl, hb_2⟩); have cB0_2 := keepB hb_2 (g := w.heap.size) (by go_size); have fB0_2 := keepF hb_2 (g := w.heap.size) (by go_size); have zB0_2 := keepZ hb_2 (g := w.heap.size) (by go_size); have cB1_2 := keepB hb_2 (g := w.heap.size + 1) (by go_size); have fB1_2 := keepF hb_2 (g := w.heap.size + 1) (by go_size); have zB1_2 := keepZ hb_2 (g := w.heap.size + 1) (by go_size); have hz_2 := hb_2.size; (try simp only [World.size_alloc, World.size_setCell, World.size_drew] at hz_2)
    have K0 := ((((Bk.new w 24 #[.int .i64 np, .int .i64 nd]).alloc (.cells #[Value.int .i64 fp, .int .i64 fd] 24)).keep hb_1).keep hb_2)
    have K1 := ((Bk.new_at (w.alloc (.cells #[.int .i64 np, .int .i64 nd] 24)) 24 #[.int .i64 fp, .int .i64 fd] (g := w.heap.size + 1) (by simp)).keep hb_1).keep hb_2
    have HK := Lib.hid (And.intro K0 K1); clear K0 K1
    have HB0 : Hid (Below w.heap.size w w2) := by unfold Hid; (repeat' (first | (with_reducible exact Below.refl _ _) | (with_reducible refine Below.alloc ?_ ?_ _) | (with_reducible refine Below.setCell ?_ ?_ _) | (with_reducible refine Below.drew ?_) | (refine Below.trans ?_ (Below.mono (by with_reducible assumption) ?_)) | go_size))
    go_wp2_with (first | (go_at_call 34; refine (currentValid_any _ _).mono ?_; rintro e w' ⟨rfl, rfl⟩))
    all_goals
      clear cB0_1 fB0_1 zB0_1 cB1_1 fB1_1 zB1_1 cB0_2 fB0_2 zB0_2 cB1_2 fB1_2 zB1_2
      go_loopw [11] (fun t wr => ∃ c : Int, t = .int .i64 c ∧ lo ≤ c ∧ np < c ∧ c ≤ 401 ∧ Hid (∀ c', lo ≤ c' → c' < c → c' ≤ hi → np < c' → rtime fp fd c' + m ≤ rtime np nd c') ∧
          Hid (Bk wr w.heap.size 24 #[.int .i64 np, .int .i64 nd] ∧ Bk wr (w.heap.size + 1) 24 #[.int .i64 fp, .int .i64 fd]) ∧ Hid (Below w.heap.size w wr)) (fun t _ => (402 - intOf t).toNat)
      case atStart =>
        exact ⟨_, rfl, by omega, by omega, by omega, (fun c' h1 h2 h3 h4 => by omega), HK, HB0⟩
      case round =>
        obtain ⟨c, rfl, hc1, hc2, hc3, HA, HK2, HB⟩ := hrel
        obtain ⟨K0, K1⟩ := HK2.out
        have c0 : wr.cell? ⟨w.heap.size, 0, none⟩ = some (.int .i64 np) := K0.cell 0
        have c1 : wr.cell? ⟨w.heap.size, 1, none⟩ = some (.int .i64 nd) := K0.cell 1
        have d0 : wr.cell? ⟨w.heap.size + 1, 0, none⟩ = some (.int .i64 fp) := K1.cell 0
        have d1 : wr.cell? ⟨w.heap.size + 1, 1, none⟩ = some (.int .i64 fd) := K1.cell 1
        have hz1 := K1.lt
        have hz0 : w.heap.size < wr.heap.size := by omega
        clear K0 K1
        by_cases hch : c ≤ hi
        · have b1 := rtime_bd (c := c) hn
          have b2 := rtime_bd (c := c) hf
          obtain ⟨b11, b12⟩ := b1
          obtain ⟨b21, b22⟩ := b2
          have hw : IntKind.i64.wrap (rtime fp fd c + m) = rtime fp fd c + m := IntWalk.i64_in _ (by omega)
          go_wp2_with fail
          go_region_held3 (fun w' => w'.cell? ⟨w.heap.size, 0, none⟩ = some (.int .i64 np) ∧ w'.cell? ⟨w.heap.size, 1, none⟩ = some (.int .i64 nd) ∧ w'.cell? ⟨w.heap.size + 1, 0, none⟩ = some (.int .i64 fp) ∧ w'.cell? ⟨w.heap.size + 1, 1, none⟩ = some (.int .i64 fd)) (simp [go_sem, World.cell?_alloc_past, *])
            (first | (go_at_call 35; refine (time_any _ _ _ _ (by with_reducible assumption) (by omega) (by omega)).mono ?_; rintro e w1 ⟨rfl, hb⟩; have cB0 := keepB hb (g := w.heap.size) (by go_size); have fB0 := keepF hb (g := w.heap.size) (by go_size); have zB0 := keepZ hb (g := w.heap.size) (by go_size); have cB1 := keepB hb (g := w.heap.size + 1) (by go_size); have fB1 := keepF hb (g := w.heap.size + 1) (by go_size); have zB1 := keepZ hb (g := w.heap.size + 1) (by go_size); have hz := hb.size; (try simp only [World.size_alloc, World.size_setCell, World.size_drew] at hz)))
          clear hw
          have HX : Hid (Below wr.heap.size wr w1) := by unfold Hid; (repeat' (first | (with_reducible exact Below.refl _ _) | (with_reducible refine Below.alloc ?_ ?_ _) | (with_reducible refine Below.setCell ?_ ?_ _) | (with_reducible refine Below.drew ?_) | (refine Below.trans ?_ (Below.mono (by with_reducible assumption) ?_)) | go_size))
          clear cB0 cB1 zB0 zB1 fB0 fB1 c0 c1 d0 d1
          by_cases ht : rtime fp fd c + m ≤ rtime np nd c
          · go_wp2
            refine ⟨⟨c + 1, rfl, by omega, by omega, by omega, (fun c' h1 h2 h3 h4 => ?_), ⟨HK2.out.1.keep HX.out, HK2.out.2.keep HX.out⟩, HB.out.trans (HX.out.mono (by omega))⟩, by simp [intOf]; omega⟩
            by_cases e : c' = c
            · subst e; exact ht
            · exact HA.out c' h1 (by omega) h3 h4
          · have ht' : rtime np nd c < rtime fp fd c + m := by omega
            go_wp2
            go_ret
            have hR := HR.out
            rw [gradeB_f.2 (fun hg => by have := hg.2.2.2.2.2 c hc1 hch hc2; omega)] at hR
            exact ⟨by rw [← hR]; rfl, HB.out.trans (HX.out.mono (by omega))⟩
        · go_wp2
          go_ret
          have hR := HR.out
          rw [gradeB_t.2 ⟨hn, hf, ⟨hm1, hm2⟩, ⟨hl0, hlh, hh⟩, hpp, fun c' h1 h2 h3 => HA.out c' h1 (by omega) h2 h3⟩] at hR
          exact ⟨by rw [← hR]; rfl, HB.out⟩
  · have hR' : R = false := by rw [← hR]; exact gradeB_f.2 (fun h => hH ⟨h.1, h.2.1, h.2.2.1, h.2.2.2.1, h.2.2.2.2.1⟩)
    subst hR'
    have HH := Lib.hid hH; clear hH hR
    go_enter Tryd.func23, Tryd.ntmps23
    go_wp2_with (first | (go_at_call 19; refine (implRelayValid_any _ _ _).mono ?_; rintro e w1 ⟨rfl, hb⟩; have cB0 := keepB hb (g := w.heap.size) (by go_size); have fB0 := keepF hb (g := w.heap.size) (by go_size); have zB0 := keepZ hb (g := w.heap.size) (by go_size); have cB1 := keepB hb (g := w.heap.size + 1) (by go_size); have fB1 := keepF hb (g := w.heap.size + 1) (by go_size); have zB1 := keepZ hb (g := w.heap.size + 1) (by go_size); have hz := hb.size; (try simp only [World.size_alloc, World.size_setCell, World.size_drew] at hz)) | (go_at_call 34; refine (currentValid_any _ _).mono ?_; rintro e w' ⟨rfl, rfl⟩))
    all_goals (first | (go_ret; refine ⟨rfl, ?_⟩; (repeat' (first | (with_reducible exact Below.refl _ _) | (with_reducible refine Below.alloc ?_ ?_ _) | (with_reducible refine Below.setCell ?_ ?_ _) | (with_reducible refine Below.drew ?_) | (refine Below.trans ?_ (Below.mono (by with_reducible assumption) ?_)) | go_size))) | (exfalso; refine HH.out ⟨relV_t.1 (by assumption), relV_t.1 (by assumption), ?_, ?_, ?_⟩ <;> (simp only [inB_t] at *; omega)))

theorem specRelayTime_in (p d c : Int) (w : World) (h : RelP p d) (h0 : 0 ≤ c) (h4 : c ≤ 400) :
    Calls Tryd.prog 11 #[.agg #[.int .i64 p, .int .i64 d], .int .i64 c] w fun e w' => e = .returned (.int .i64 (rtime p d c)) ∧ Below w.heap.size w w' := by
  have h' := h
  unfold RelP at h'
  have := specRelayTime_any p d c w (by unfold I64; omega) (by unfold I64; omega)
  rw [srt_in h h4] at this
  exact this

set_option maxHeartbeats 2000000 in
theorem specGradeOk_any (np nd fp fd m lo hi : Int) (w : World) :
    Calls Tryd.prog 25 #[.agg #[.int .i64 np, .int .i64 nd], .agg #[.int .i64 fp, .int .i64 fd], .int .i64 m, .int .i64 lo, .int .i64 hi] w fun e w' => e = .returned (.bool (gradeB np nd fp fd m lo hi)) ∧ Below w.heap.size w w' := by
  generalize hR : gradeB np nd fp fd m lo hi = R
  by_cases hH : GradeH np nd fp fd m lo hi
  · obtain ⟨hn, hf, ⟨hm1, hm2⟩, ⟨hl0, hlh, hh⟩, hpp⟩ := hH
    have hnv := relV_t.2 hn
    have hfv := relV_t.2 hf
    have il : inB m 1 400 = true := inB_t.2 (by omega)
    have hn2 := hn
    unfold RelP at hn2
    obtain ⟨hn21, hn22, _, _⟩ := hn2
    have HR := Lib.hid hR; clear hR
    go_enter Tryd.func25, Tryd.ntmps25
    go_wp2_with fail; ((with_reducible refine (specRelayValid_any _ _ _).mono ?_); rintro e w1 ⟨rfl, hb_3⟩); have cB0_3 := keepB hb_3 (g := w.heap.size) (by go_size); have fB0_3 := keepF hb_3 (g := w.heap.size) (by go_size); have zB0_3 := keepZ hb_3 (g := w.heap.size) (by go_size); have cB1_3 := keepB hb_3 (g := w.heap.size + 1) (by go_size); have fB1_3 := keepF hb_3 (g := w.heap.size + 1) (by go_size); have zB1_3 := keepZ hb_3 (g := w.heap.size + 1) (by go_size); have hz_3 := hb_3.size; (try simp only [World.size_alloc, World.size_setCell, World.size_drew] at hz_3)
    go_wp2_with fail; ((with_reducible refine (specRelayValid_any _ _ _).mono ?_); rintro e w2 ⟨rfl, hb_4⟩); have cB0_4 := keepB hb_4 (g := w.heap.size) (by go_size); have fB0_4 := keepF hb_4 (g := w.heap.size) (by go_size); have zB0_4 := keepZ hb_4 (g := w.heap.size) (by go_size); have cB1_4 := keepB hb_4 (g := w.heap.size + 1) (by go_size); have fB1_4 := keepF hb_4 (g := w.heap.size + 1) (by go_size); have zB1_4 := keepZ hb_4 (g := w.heap.size + 1) (by go_size); have hz_4 := hb_4.size; (try simp only [World.size_alloc, World.size_setCell, World.size_drew] at hz_4)
    have K0 := ((((Bk.new w 24 #[.int .i64 np, .int .i64 nd]).alloc (.cells #[Value.int .i64 fp, .int .i64 fd] 24)).keep hb_3).keep hb_4)
    have K1 := ((Bk.new_at (w.alloc (.cells #[.int .i64 np, .int .i64 nd] 24)) 24 #[.int .i64 fp, .int .i64 fd] (g := w.heap.size + 1) (by simp)).keep hb_3).keep hb_4
    have HK := Lib.hid (And.intro K0 K1); clear K0 K1
    have HB0 : Hid (Below w.heap.size w w2) := by unfold Hid; (repeat' (first | (with_reducible exact Below.refl _ _) | (with_reducible refine Below.alloc ?_ ?_ _) | (with_reducible refine Below.setCell ?_ ?_ _) | (with_reducible refine Below.drew ?_) | (refine Below.trans ?_ (Below.mono (by with_reducible assumption) ?_)) | go_size))
    go_wp2_with (first | (go_at_call 37; refine (l1In_any _ _ _ _).mono ?_; rintro e w' ⟨rfl, rfl⟩))
    all_goals try (exfalso; omega; done)
    clear cB0_3 fB0_3 zB0_3 cB1_3 fB1_3 zB1_3 cB0_4 fB0_4 zB0_4 cB1_4 fB1_4 zB1_4
    go_loopw [11] (fun t wr => ∃ c : Int, t = .int .i64 c ∧ lo ≤ c ∧ c ≤ 401 ∧ Hid (∀ c', lo ≤ c' → c' < c → c' ≤ hi → np < c' → rtime fp fd c' + m ≤ rtime np nd c') ∧
          Hid (Bk wr w.heap.size 24 #[.int .i64 np, .int .i64 nd] ∧ Bk wr (w.heap.size + 1) 24 #[.int .i64 fp, .int .i64 fd]) ∧ Hid (Below w.heap.size w wr)) (fun t _ => (402 - intOf t).toNat)
    case atStart =>
      exact ⟨_, rfl, by omega, by omega, (fun c' h1 h2 h3 h4 => by omega), HK, HB0⟩
    case round =>
      obtain ⟨c, rfl, hc1, hc3, HA, HK2, HB⟩ := hrel
      obtain ⟨K0, K1⟩ := HK2.out
      have c0 := K0.cell
      have d0 := K1.cell
      have hz1 := K1.lt
      have hz0 : w.heap.size < wr.heap.size := by omega
      clear K0 K1
      by_cases hch : c ≤ hi
      · by_cases hc2 : np < c
        · have b1 := rtime_bd (c := c) hn
          have b2 := rtime_bd (c := c) hf
          have b3 := rtime_pos hn hc2
          obtain ⟨b11, b12⟩ := b1
          obtain ⟨b21, b22⟩ := b2
          by_cases ht : rtime fp fd c + m ≤ rtime np nd c
          · go_wp2_with (first | (go_at_call 11; refine (specRelayTime_in _ _ _ _ (by with_reducible assumption) (by omega) (by omega)).mono ?_; rintro e w1 ⟨rfl, hb⟩; have cB0 := keepB hb (g := w.heap.size) (by go_size); have fB0 := keepF hb (g := w.heap.size) (by go_size); have zB0 := keepZ hb (g := w.heap.size) (by go_size); have cB1 := keepB hb (g := w.heap.size + 1) (by go_size); have fB1 := keepF hb (g := w.heap.size + 1) (by go_size); have zB1 := keepZ hb (g := w.heap.size + 1) (by go_size); have hz := hb.size; (try simp only [World.size_alloc, World.size_setCell, World.size_drew] at hz)))
            all_goals try (exfalso; omega; done)
            have HX : Hid (Below wr.heap.size wr w1) := by unfold Hid; (repeat' (first | (with_reducible exact Below.refl _ _) | (with_reducible refine Below.alloc ?_ ?_ _) | (with_reducible refine Below.setCell ?_ ?_ _) | (with_reducible refine Below.drew ?_) | (refine Below.trans ?_ (Below.mono (by with_reducible assumption) ?_)) | go_size))
            clear cB0 cB1 zB0 zB1 fB0 fB1 c0 d0
            refine ⟨⟨c + 1, rfl, by omega, by omega, (fun c' h1 h2 h3 h4 => ?_), ⟨HK2.out.1.keep HX.out, HK2.out.2.keep HX.out⟩, HB.out.trans (HX.out.mono (by omega))⟩, by simp [intOf]; omega⟩
            by_cases e : c' = c
            · subst e; exact ht
            · exact HA.out c' h1 (by omega) h3 h4
          · have ht' : rtime np nd c < rtime fp fd c + m := by omega
            go_wp2_with (first | (go_at_call 11; refine (specRelayTime_in _ _ _ _ (by with_reducible assumption) (by omega) (by omega)).mono ?_; rintro e w1 ⟨rfl, hb⟩; have cB0 := keepB hb (g := w.heap.size) (by go_size); have fB0 := keepF hb (g := w.heap.size) (by go_size); have zB0 := keepZ hb (g := w.heap.size) (by go_size); have cB1 := keepB hb (g := w.heap.size + 1) (by go_size); have fB1 := keepF hb (g := w.heap.size + 1) (by go_size); have zB1 := keepZ hb (g := w.heap.size + 1) (by go_size); have hz := hb.size; (try simp only [World.size_alloc, World.size_setCell, World.size_drew] at hz)))
            all_goals try (exfalso; omega; done)
            have HX : Hid (Below wr.heap.size wr w1) := by unfold Hid; (repeat' (first | (with_reducible exact Below.refl _ _) | (with_reducible refine Below.alloc ?_ ?_ _) | (with_reducible refine Below.setCell ?_ ?_ _) | (with_reducible refine Below.drew ?_) | (refine Below.trans ?_ (Below.mono (by with_reducible assumption) ?_)) | go_size))
            go_ret
            have hR := HR.out
            rw [gradeB_f.2 (fun hg => by have := hg.2.2.2.2.2 c hc1 hch hc2; omega)] at hR
            exact ⟨by rw [← hR]; rfl, HB.out.trans (HX.out.mono (by omega))⟩
        · have b0 : rtime np nd c < 0 := by rw [rtime_le (by omega)]; omega
          go_wp2_with (first | (go_at_call 11; refine (specRelayTime_in _ _ _ _ (by with_reducible assumption) (by omega) (by omega)).mono ?_; rintro e w1 ⟨rfl, hb⟩; have cB0 := keepB hb (g := w.heap.size) (by go_size); have fB0 := keepF hb (g := w.heap.size) (by go_size); have zB0 := keepZ hb (g := w.heap.size) (by go_size); have cB1 := keepB hb (g := w.heap.size + 1) (by go_size); have fB1 := keepF hb (g := w.heap.size + 1) (by go_size); have zB1 := keepZ hb (g := w.heap.size + 1) (by go_size); have hz := hb.size; (try simp only [World.size_alloc, World.size_setCell, World.size_drew] at hz)))
          all_goals try (exfalso; omega; done)
          have HX : Hid (Below wr.heap.size wr w1) := by unfold Hid; (repeat' (first | (with_reducible exact Below.refl _ _) | (with_reducible refine Below.alloc ?_ ?_ _) | (with_reducible refine Below.setCell ?_ ?_ _) | (with_reducible refine Below.drew ?_) | (refine Below.trans ?_ (Below.mono (by with_reducible assumption) ?_)) | go_size))
          clear cB0 cB1 zB0 zB1 fB0 fB1 c0 d0
          refine ⟨⟨c + 1, rfl, by omega, by omega, (fun c' h1 h2 h3 h4 => ?_), ⟨HK2.out.1.keep HX.out, HK2.out.2.keep HX.out⟩, HB.out.trans (HX.out.mono (by omega))⟩, by simp [intOf]; omega⟩
          by_cases e : c' = c
          · omega
          · exact HA.out c' h1 (by omega) h3 h4
      · go_wp2
        go_ret
        have hR := HR.out
        rw [gradeB_t.2 ⟨hn, hf, ⟨hm1, hm2⟩, ⟨hl0, hlh, hh⟩, hpp, fun c' h1 h2 h3 => HA.out c' h1 (by omega) h2 h3⟩] at hR
        exact ⟨by rw [← hR]; rfl, HB.out⟩
  · have hR' : R = false := by rw [← hR]; exact gradeB_f.2 (fun h => hH ⟨h.1, h.2.1, h.2.2.1, h.2.2.2.1, h.2.2.2.2.1⟩)
    subst hR'
    have HH := Lib.hid hH; clear hH hR
    go_enter Tryd.func25, Tryd.ntmps25
    go_wp2_with (first | (go_at_call 36; refine (specRelayValid_any _ _ _).mono ?_; rintro e w1 ⟨rfl, hb⟩; have cB0 := keepB hb (g := w.heap.size) (by go_size); have fB0 := keepF hb (g := w.heap.size) (by go_size); have zB0 := keepZ hb (g := w.heap.size) (by go_size); have cB1 := keepB hb (g := w.heap.size + 1) (by go_size); have fB1 := keepF hb (g := w.heap.size + 1) (by go_size); have zB1 := keepZ hb (g := w.heap.size + 1) (by go_size); have hz := hb.size; (try simp only [World.size_alloc, World.size_setCell, World.size_drew] at hz)) | (go_at_call 37; refine (l1In_any _ _ _ _).mono ?_; rintro e w' ⟨rfl, rfl⟩))
    all_goals (first | (go_ret; refine ⟨rfl, ?_⟩; (repeat' (first | (with_reducible exact Below.refl _ _) | (with_reducible refine Below.alloc ?_ ?_ _) | (with_reducible refine Below.setCell ?_ ?_ _) | (with_reducible refine Below.drew ?_) | (refine Below.trans ?_ (Below.mono (by with_reducible assumption) ?_)) | go_size))) | (exfalso; refine HH.out ⟨relV_t.1 (by assumption), relV_t.1 (by assumption), ?_, ?_, ?_⟩ <;> (simp only [inB_t] at *; omega)))
end Go.Proofs.YtkndokcpnlbipaaDoor
