/- The laws FnRecStep and FnRecReset: their walks. -/
import Derived.Test.YtkibkmhmlkfhfaaDoorRecW
namespace Go.Proofs.YtkibkmhmlkfhfaaDoor
open Go.RowKit Go.Deep
set_option linter.unusedSimpArgs false
set_option linter.unusedVariables false

/-- What the law asks of a step: six cases. -/
theorem step_cases {a b c d : Int} (f : Bool) (h : RecP a b c d) : ∃ r : R4, recStep a b c d f = r ∧ RecP r.a r.b r.c r.d ∧
    ((a = 0 ∧ f = true ∧ ¬ r.a = 0) ∨ (a = 0 ∧ f = false ∧ r.a = 0) ∨ a = 1 ∨ (a = 2 ∧ r = ⟨a, b, c, d⟩)) := by
  refine ⟨_, rfl, recStep_P f h, ?_⟩
  cases f
  · have hl := recStep_lin_f h
    have hp := h
    unfold RecP at h
    by_cases h2 : a = 2
    · refine .inr (.inr (.inr ⟨h2, ?_⟩))
      have he : recStep a b c d false = ⟨(recStep a b c d false).a, (recStep a b c d false).b, (recStep a b c d false).c, (recStep a b c d false).d⟩ := rfl
      rw [he]
      congr <;> omega
    · generalize recStep a b c d false = r at *
      rcases (by omega : (a = 0 ∧ r.a = 0) ∨ a = 1) with h0 | h0
      · exact .inr (.inl ⟨h0.1, rfl, h0.2⟩)
      · exact .inr (.inr (.inl h0))
  · have hl := recStep_lin_t h
    have hp := h
    unfold RecP at h
    by_cases h2 : a = 2
    · refine .inr (.inr (.inr ⟨h2, ?_⟩))
      have he : recStep a b c d true = ⟨(recStep a b c d true).a, (recStep a b c d true).b, (recStep a b c d true).c, (recStep a b c d true).d⟩ := rfl
      rw [he]
      congr <;> omega
    · generalize recStep a b c d true = r at *
      rcases (by omega : (a = 0 ∧ ¬ r.a = 0) ∨ a = 1) with h0 | h0
      · exact .inl ⟨h0.1, rfl, h0.2⟩
      · exact .inr (.inr (.inl h0))

set_option maxHeartbeats 4000000 in
theorem fnRecStep_any (A : Option Addr) (n c : Nat) (bs : List Int) (w : World) (hn : bs.length = n) (hb : ∀ x ∈ bs, U8 x) (hc : n ≤ c) (hcm : c ≤ maxLen) (hR : Reads 1 byteC w w.heap.size A bs) :
    Calls Tryd.prog 4 #[.slice A n c] w fun e w' => e = .returned (.bool true) ∧ Below w.heap.size w w' := by
  unfold maxLen at hcm
  subst hn
  have HR := Lib.hid hR; clear hR
  have HB := Lib.hid hb; clear hb
  by_cases hl : bs.length ≤ 1048576
  · have hl' : ¬ (1048576 : Int) < bs.length := by omega
    go_enter Tryd.func4, Tryd.ntmps4
    go_wp2_with fail; ((with_reducible refine (drawRecStep_any A c bs w HR.out HB.out hl hc hcm).mono ?_); rintro e w1 ⟨a, b, c', d, f, rfl, hs, hb_1⟩); have hz_1 := hb_1.size; (try simp only [World.size_alloc, World.size_setCell, World.size_drew] at hz_1)
    clear hs
    by_cases hv : recV a b c' d = true
    · obtain ⟨r, hr, hrp, hcs⟩ := step_cases f (recV_t.1 hv)
      have hvr := recV_t.2 hrp
      have HE := Lib.hid hr; clear hr hrp
      go_wp2_with fail; ((with_reducible refine (implRecStep_any _ _ _ _ _ _).mono ?_); rintro e w2 ⟨rfl, hb_2⟩); have cB0_2 := keepB hb_2 (g := w1.heap.size) (by go_size); have fB0_2 := keepF hb_2 (g := w1.heap.size) (by go_size); have zB0_2 := keepZ hb_2 (g := w1.heap.size) (by go_size); have hz_2 := hb_2.size; (try simp only [World.size_alloc, World.size_setCell, World.size_drew] at hz_2)
      rw [HE.out]
      go_wp2_with fail
      have HE2 : Hid (∀ w, Calls Tryd.prog 14 #[.agg #[.int .i64 a, .int .i64 b, .int .i64 c', .int .i64 d], .bool f] w fun e w' => e = .returned (rv r) ∧ Below w.heap.size w w') := fun w => by have := specRecStep_any a b c' d f w; rw [HE.out] at this; exact this
      have c0 : ∀ i, (w2.alloc (.cells #[.int .i64 r.a, .int .i64 r.b, .int .i64 r.c, .int .i64 r.d] 24)).cell? ⟨w1.heap.size, i, none⟩ = #[Value.int .i64 a, .int .i64 b, .int .i64 c', .int .i64 d][i]? := fun i => by
        rw [World.cell?_alloc_past _ _ _ zB0_2, cB0_2]; simp
      go_region_held3 (fun w' => w'.cell? ⟨w1.heap.size, 0, none⟩ = some (.int .i64 a) ∧ w'.cell? ⟨w1.heap.size, 1, none⟩ = some (.int .i64 b) ∧ w'.cell? ⟨w1.heap.size, 2, none⟩ = some (.int .i64 c') ∧ w'.cell? ⟨w1.heap.size, 3, none⟩ = some (.int .i64 d) ∧ w'.cell? ⟨w2.heap.size, 0, none⟩ = some (.int .i64 r.a) ∧ w'.cell? ⟨w2.heap.size, 1, none⟩ = some (.int .i64 r.b) ∧ w'.cell? ⟨w2.heap.size, 2, none⟩ = some (.int .i64 r.c) ∧ w'.cell? ⟨w2.heap.size, 3, none⟩ = some (.int .i64 r.d)) (simp [go_sem, World.cell?_alloc_past, *])
        (first | (go_at_call 14; refine (HE2.out _).mono ?_; rintro e w3 ⟨rfl, hb⟩; have cB0 := keepB hb (g := w1.heap.size) (by go_size); have fB0 := keepF hb (g := w1.heap.size) (by go_size); have zB0 := keepZ hb (g := w1.heap.size) (by go_size); have cB1 := keepB hb (g := w2.heap.size) (by go_size); have fB1 := keepF hb (g := w2.heap.size) (by go_size); have zB1 := keepZ hb (g := w2.heap.size) (by go_size); have hz := hb.size; (try simp only [World.size_alloc, World.size_setCell, World.size_drew] at hz)))
      go_wp2_with fail; ((with_reducible refine (specRecValid_any _ _ _ _ _).mono ?_); rintro e w4 ⟨rfl, hb_3⟩); have cB0_3 := keepB hb_3 (g := w1.heap.size) (by go_size); have fB0_3 := keepF hb_3 (g := w1.heap.size) (by go_size); have zB0_3 := keepZ hb_3 (g := w1.heap.size) (by go_size); have cB1_3 := keepB hb_3 (g := w2.heap.size) (by go_size); have fB1_3 := keepF hb_3 (g := w2.heap.size) (by go_size); have zB1_3 := keepZ hb_3 (g := w2.heap.size) (by go_size); have hz_3 := hb_3.size; (try simp only [World.size_alloc, World.size_setCell, World.size_drew] at hz_3)
      rcases hcs with ⟨q1, rfl, q2⟩ | ⟨q1, rfl, q2⟩ | q1 | ⟨q1, rfl⟩
      · have e1 : (a == 0) = true := by simp [q1]
        have e2 : (r.a != 0) = true := by simp [q2]
        have e3 : (a != 2) = true := by simp [q1]
        clear q1 q2
        go_wp2_with fail; ((with_reducible refine (implRecValid_any _ _ _ _ _).mono ?_); rintro e w5 ⟨rfl, hb_4⟩); have cB0_4 := keepB hb_4 (g := w1.heap.size) (by go_size); have fB0_4 := keepF hb_4 (g := w1.heap.size) (by go_size); have zB0_4 := keepZ hb_4 (g := w1.heap.size) (by go_size); have cB1_4 := keepB hb_4 (g := w2.heap.size) (by go_size); have fB1_4 := keepF hb_4 (g := w2.heap.size) (by go_size); have zB1_4 := keepZ hb_4 (g := w2.heap.size) (by go_size); have hz_4 := hb_4.size; (try simp only [World.size_alloc, World.size_setCell, World.size_drew] at hz_4)
        go_wp2
        all_goals try (exfalso; omega; done)
        go_ret
        refine ⟨rfl, ?_⟩; (repeat' (first | (with_reducible exact Below.refl _ _) | (with_reducible refine Below.alloc ?_ ?_ _) | (with_reducible refine Below.setCell ?_ ?_ _) | (with_reducible refine Below.drew ?_) | (refine Below.trans ?_ (Below.mono (by with_reducible assumption) ?_)) | go_size))
      · have e1 : (a == 0) = true := by simp [q1]
        have e2 : (r.a != 0) = false := by simp [q2]
        have e3 : (a != 2) = true := by simp [q1]
        clear q1 q2
        go_wp2_with fail; ((with_reducible refine (implRecValid_any _ _ _ _ _).mono ?_); rintro e w5 ⟨rfl, hb_5⟩); have cB0_5 := keepB hb_5 (g := w1.heap.size) (by go_size); have fB0_5 := keepF hb_5 (g := w1.heap.size) (by go_size); have zB0_5 := keepZ hb_5 (g := w1.heap.size) (by go_size); have cB1_5 := keepB hb_5 (g := w2.heap.size) (by go_size); have fB1_5 := keepF hb_5 (g := w2.heap.size) (by go_size); have zB1_5 := keepZ hb_5 (g := w2.heap.size) (by go_size); have hz_5 := hb_5.size; (try simp only [World.size_alloc, World.size_setCell, World.size_drew] at hz_5)
        go_wp2
        all_goals try (exfalso; omega; done)
        go_ret
        refine ⟨rfl, ?_⟩; (repeat' (first | (with_reducible exact Below.refl _ _) | (with_reducible refine Below.alloc ?_ ?_ _) | (with_reducible refine Below.setCell ?_ ?_ _) | (with_reducible refine Below.drew ?_) | (refine Below.trans ?_ (Below.mono (by with_reducible assumption) ?_)) | go_size))
      · have e1 : (a == 0) = false := by simp [q1]
        have e3 : (a != 2) = true := by simp [q1]
        clear q1
        go_wp2_with fail; ((with_reducible refine (implRecValid_any _ _ _ _ _).mono ?_); rintro e w5 ⟨rfl, hb_6⟩); have cB0_6 := keepB hb_6 (g := w1.heap.size) (by go_size); have fB0_6 := keepF hb_6 (g := w1.heap.size) (by go_size); have zB0_6 := keepZ hb_6 (g := w1.heap.size) (by go_size); have cB1_6 := keepB hb_6 (g := w2.heap.size) (by go_size); have fB1_6 := keepF hb_6 (g := w2.heap.size) (by go_size); have zB1_6 := keepZ hb_6 (g := w2.heap.size) (by go_size); have hz_6 := hb_6.size; (try simp only [World.size_alloc, World.size_setCell, World.size_drew] at hz_6)
        go_wp2
        all_goals try (exfalso; omega; done)
        go_ret
        refine ⟨rfl, ?_⟩; (repeat' (first | (with_reducible exact Below.refl _ _) | (with_reducible refine Below.alloc ?_ ?_ _) | (with_reducible refine Below.setCell ?_ ?_ _) | (with_reducible refine Below.drew ?_) | (refine Below.trans ?_ (Below.mono (by with_reducible assumption) ?_)) | go_size))
      · have e1 : (a == 0) = false := by simp [q1]
        have e3 : (a != 2) = false := by simp [q1]
        clear q1
        go_wp2_with fail; ((with_reducible refine (implRecValid_any _ _ _ _ _).mono ?_); rintro e w5 ⟨rfl, hb_7⟩); have cB0_7 := keepB hb_7 (g := w1.heap.size) (by go_size); have fB0_7 := keepF hb_7 (g := w1.heap.size) (by go_size); have zB0_7 := keepZ hb_7 (g := w1.heap.size) (by go_size); have cB1_7 := keepB hb_7 (g := w2.heap.size) (by go_size); have fB1_7 := keepF hb_7 (g := w2.heap.size) (by go_size); have zB1_7 := keepZ hb_7 (g := w2.heap.size) (by go_size); have hz_7 := hb_7.size; (try simp only [World.size_alloc, World.size_setCell, World.size_drew] at hz_7)
        go_wp2
        all_goals try (exfalso; omega; done)
        go_ret
        refine ⟨rfl, ?_⟩; (repeat' (first | (with_reducible exact Below.refl _ _) | (with_reducible refine Below.alloc ?_ ?_ _) | (with_reducible refine Below.setCell ?_ ?_ _) | (with_reducible refine Below.drew ?_) | (refine Below.trans ?_ (Below.mono (by with_reducible assumption) ?_)) | go_size))
    · have hv' : recV a b c' d = false := by simpa using hv
      have he := recStep_not (f := f) (recV_f.1 hv')
      have HE := Lib.hid he; clear he hv
      go_wp2_with fail; ((with_reducible refine (implRecStep_any _ _ _ _ _ _).mono ?_); rintro e w2 ⟨rfl, hb_8⟩); have cB0_8 := keepB hb_8 (g := w1.heap.size) (by go_size); have fB0_8 := keepF hb_8 (g := w1.heap.size) (by go_size); have zB0_8 := keepZ hb_8 (g := w1.heap.size) (by go_size); have hz_8 := hb_8.size; (try simp only [World.size_alloc, World.size_setCell, World.size_drew] at hz_8)
      rw [HE.out]
      go_wp2_with fail
      have HE2 : Hid (∀ w, Calls Tryd.prog 14 #[.agg #[.int .i64 a, .int .i64 b, .int .i64 c', .int .i64 d], .bool f] w fun e w' => e = .returned (.agg #[.int .i64 0, .int .i64 0, .int .i64 0, .int .i64 0]) ∧ Below w.heap.size w w') := fun w => by have := specRecStep_any a b c' d f w; rw [HE.out] at this; exact this
      have c0 : ∀ i, (w2.alloc (.cells #[.int .i64 0, .int .i64 0, .int .i64 0, .int .i64 0] 24)).cell? ⟨w1.heap.size, i, none⟩ = #[Value.int .i64 a, .int .i64 b, .int .i64 c', .int .i64 d][i]? := fun i => by
        rw [World.cell?_alloc_past _ _ _ zB0_8, cB0_8]; simp
      go_region_held3 (fun w' => w'.cell? ⟨w1.heap.size, 0, none⟩ = some (.int .i64 a) ∧ w'.cell? ⟨w1.heap.size, 1, none⟩ = some (.int .i64 b) ∧ w'.cell? ⟨w1.heap.size, 2, none⟩ = some (.int .i64 c') ∧ w'.cell? ⟨w1.heap.size, 3, none⟩ = some (.int .i64 d) ∧ w'.cell? ⟨w2.heap.size, 0, none⟩ = some (.int .i64 0) ∧ w'.cell? ⟨w2.heap.size, 1, none⟩ = some (.int .i64 0) ∧ w'.cell? ⟨w2.heap.size, 2, none⟩ = some (.int .i64 0) ∧ w'.cell? ⟨w2.heap.size, 3, none⟩ = some (.int .i64 0)) (simp [go_sem, World.cell?_alloc_past, *])
        (first | (go_at_call 14; refine (HE2.out _).mono ?_; rintro e w3 ⟨rfl, hb⟩; have cB0 := keepB hb (g := w1.heap.size) (by go_size); have fB0 := keepF hb (g := w1.heap.size) (by go_size); have zB0 := keepZ hb (g := w1.heap.size) (by go_size); have cB1 := keepB hb (g := w2.heap.size) (by go_size); have fB1 := keepF hb (g := w2.heap.size) (by go_size); have zB1 := keepZ hb (g := w2.heap.size) (by go_size); have hz := hb.size; (try simp only [World.size_alloc, World.size_setCell, World.size_drew] at hz)))
      go_wp2_with fail; ((with_reducible refine (specRecValid_any _ _ _ _ _).mono ?_); rintro e w4 ⟨rfl, hb_9⟩); have cB0_9 := keepB hb_9 (g := w1.heap.size) (by go_size); have fB0_9 := keepF hb_9 (g := w1.heap.size) (by go_size); have zB0_9 := keepZ hb_9 (g := w1.heap.size) (by go_size); have cB1_9 := keepB hb_9 (g := w2.heap.size) (by go_size); have fB1_9 := keepF hb_9 (g := w2.heap.size) (by go_size); have zB1_9 := keepZ hb_9 (g := w2.heap.size) (by go_size); have hz_9 := hb_9.size; (try simp only [World.size_alloc, World.size_setCell, World.size_drew] at hz_9)
      go_wp2_with fail; ((with_reducible refine (alive_any _).mono ?_); rintro e w5 ⟨rfl, hb_10⟩); have hz_10 := hb_10.size; (try simp only [World.size_alloc, World.size_setCell, World.size_drew] at hz_10)
      go_wp2
      go_ret
      refine ⟨rfl, ?_⟩; (repeat' (first | (with_reducible exact Below.refl _ _) | (with_reducible refine Below.alloc ?_ ?_ _) | (with_reducible refine Below.setCell ?_ ?_ _) | (with_reducible refine Below.drew ?_) | (refine Below.trans ?_ (Below.mono (by with_reducible assumption) ?_)) | go_size))
  · have hl' : (1048576 : Int) < bs.length := by omega
    go_enter Tryd.func4, Tryd.ntmps4
    go_wp2_with fail
    go_ret
    exact ⟨rfl, Below.refl _ _⟩
end Go.Proofs.YtkibkmhmlkfhfaaDoor
