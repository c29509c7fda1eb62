/- The recloser's reset and the ticks till it is closed: contracts. -/
import Derived.Test.YtkibkmhmlkfhfaaDoorRecB
namespace Go.Proofs.YtkibkmhmlkfhfaaDoor
open Go.RowKit
set_option linter.unusedSimpArgs false
set_option linter.unusedVariables false

theorem rv2_eq {r : R4} {a b c d : Int} {x y : Bool} (h : r.a = a ∧ r.b = b ∧ r.c = c ∧ r.d = d) (hx : x = y) : Ending.returned (.tuple #[.agg #[.int .i64 a, .int .i64 b, .int .i64 c, .int .i64 d], .bool x]) = Ending.returned (.tuple #[rv r, .bool y]) := by
  obtain ⟨rfl, rfl, rfl, rfl⟩ := h; rw [hx]

def recLk (s sh wt g : Int) : Bool := decide (s = 2 ∧ sh = 3 ∧ wt = 0 ∧ g = 0)
def recReset (s sh wt g : Int) : R4 := if recLk s sh wt g = true then ⟨0, 0, 0, 0⟩ else ⟨s, sh, wt, g⟩

theorem recReset_t {s sh wt g : Int} (h : s = 2 ∧ sh = 3 ∧ wt = 0 ∧ g = 0) : recReset s sh wt g = ⟨0, 0, 0, 0⟩ ∧ recLk s sh wt g = true := by
  simp [recReset, recLk, h]
theorem recReset_f {s sh wt g : Int} (h : ¬ (s = 2 ∧ sh = 3 ∧ wt = 0 ∧ g = 0)) : recReset s sh wt g = ⟨s, sh, wt, g⟩ ∧ recLk s sh wt g = false := by
  have : recLk s sh wt g = false := by simp only [recLk, decide_eq_false_iff_not]; exact h
  simp [recReset, this]

set_option maxHeartbeats 1000000 in
theorem specRecReset_any (s sh wt g : Int) (w : World) :
    Calls Tryd.prog 17 #[.agg #[.int .i64 s, .int .i64 sh, .int .i64 wt, .int .i64 g]] w fun e w' => e = .returned (.tuple #[rv (recReset s sh wt g), .bool (recLk s sh wt g)]) ∧ Below w.heap.size w w' := by
  by_cases hr : s = 2 ∧ sh = 3 ∧ wt = 0 ∧ g = 0
  · rw [(recReset_t hr).1, (recReset_t hr).2]
    have hv : recV s sh wt g = true := by rw [recV_t]; unfold RecP; omega
    have h2 : (s != 2) = false := by simp [hr.1]
    clear hr
    go_enter Tryd.func17, Tryd.ntmps17
    go_wp2_with (first | (go_at_call 10; refine (specRecValid_any _ _ _ _ _).mono ?_; rintro e w1 ⟨rfl, hb⟩; have cB0 := keepB hb (g := w.heap.size) (by go_size); have fB0 := keepF hb (g := w.heap.size) (by go_size); have zB0 := keepZ hb (g := w.heap.size) (by go_size); have cB1 := keepB hb (g := w.heap.size + 1) (by go_size); have fB1 := keepF hb (g := w.heap.size + 1) (by go_size); have zB1 := keepZ hb (g := w.heap.size + 1) (by go_size); have hz := hb.size; (try simp only [World.size_alloc, World.size_setCell, World.size_drew] at hz)))
    all_goals (refine bodyPost_ret (by simp [results, Tryd.results17, go_sem, cB1]; try rfl) rfl ?_; refine ⟨rfl, ?_⟩; (repeat' (first | (with_reducible exact Below.refl _ _) | (with_reducible refine Below.alloc ?_ ?_ _) | (with_reducible refine Below.setCell ?_ ?_ _) | (with_reducible refine Below.drew ?_) | (refine Below.trans ?_ (Below.mono (by with_reducible assumption) ?_)) | go_size)))
  · rw [(recReset_f hr).1, (recReset_f hr).2]
    by_cases hv : recV s sh wt g = true
    · have hp := recV_t.1 hv
      have h2 : (s != 2) = true := by rw [bned]; simp; unfold RecP at hp; omega
      clear hr hp
      go_enter Tryd.func17, Tryd.ntmps17
      go_wp2_with (first | (go_at_call 10; refine (specRecValid_any _ _ _ _ _).mono ?_; rintro e w1 ⟨rfl, hb⟩; have cB0 := keepB hb (g := w.heap.size) (by go_size); have fB0 := keepF hb (g := w.heap.size) (by go_size); have zB0 := keepZ hb (g := w.heap.size) (by go_size); have cB1 := keepB hb (g := w.heap.size + 1) (by go_size); have fB1 := keepF hb (g := w.heap.size + 1) (by go_size); have zB1 := keepZ hb (g := w.heap.size + 1) (by go_size); have hz := hb.size; (try simp only [World.size_alloc, World.size_setCell, World.size_drew] at hz)))
      all_goals (refine bodyPost_ret (by simp [results, Tryd.results17, go_sem, cB1]; try rfl) rfl ?_; refine ⟨rfl, ?_⟩; (repeat' (first | (with_reducible exact Below.refl _ _) | (with_reducible refine Below.alloc ?_ ?_ _) | (with_reducible refine Below.setCell ?_ ?_ _) | (with_reducible refine Below.drew ?_) | (refine Below.trans ?_ (Below.mono (by with_reducible assumption) ?_)) | go_size)))
    · have hv : recV s sh wt g = false := by simpa using hv
      clear hr
      go_enter Tryd.func17, Tryd.ntmps17
      go_wp2_with (first | (go_at_call 10; refine (specRecValid_any _ _ _ _ _).mono ?_; rintro e w1 ⟨rfl, hb⟩; have cB0 := keepB hb (g := w.heap.size) (by go_size); have fB0 := keepF hb (g := w.heap.size) (by go_size); have zB0 := keepZ hb (g := w.heap.size) (by go_size); have cB1 := keepB hb (g := w.heap.size + 1) (by go_size); have fB1 := keepF hb (g := w.heap.size + 1) (by go_size); have zB1 := keepZ hb (g := w.heap.size + 1) (by go_size); have hz := hb.size; (try simp only [World.size_alloc, World.size_setCell, World.size_drew] at hz)))
      all_goals (refine bodyPost_ret (by simp [results, Tryd.results17, go_sem, cB1]; try rfl) rfl ?_; refine ⟨rfl, ?_⟩; (repeat' (first | (with_reducible exact Below.refl _ _) | (with_reducible refine Below.alloc ?_ ?_ _) | (with_reducible refine Below.setCell ?_ ?_ _) | (with_reducible refine Below.drew ?_) | (refine Below.trans ?_ (Below.mono (by with_reducible assumption) ?_)) | go_size)))
set_option maxHeartbeats 1000000 in
theorem implRecReset_any (s sh wt g : Int) (w : World) :
    Calls Tryd.prog 16 #[.agg #[.int .i64 s, .int .i64 sh, .int .i64 wt, .int .i64 g]] w fun e w' => e = .returned (.tuple #[rv (recReset s sh wt g), .bool (recLk s sh wt g)]) ∧ Below w.heap.size w w' := by
  by_cases hr : s = 2 ∧ sh = 3 ∧ wt = 0 ∧ g = 0
  · rw [(recReset_t hr).1, (recReset_t hr).2]
    have hv : recV s sh wt g = true := by rw [recV_t]; unfold RecP; omega
    have h2 : (s != 2) = false := by simp [hr.1]
    clear hr
    go_enter Tryd.func16, Tryd.ntmps16
    go_wp2_with (first | (go_at_call 9; refine (implRecValid_any _ _ _ _ _).mono ?_; rintro e w1 ⟨rfl, hb⟩; have cB0 := keepB hb (g := w.heap.size) (by go_size); have fB0 := keepF hb (g := w.heap.size) (by go_size); have zB0 := keepZ hb (g := w.heap.size) (by go_size); have cB1 := keepB hb (g := w.heap.size + 1) (by go_size); have fB1 := keepF hb (g := w.heap.size + 1) (by go_size); have zB1 := keepZ hb (g := w.heap.size + 1) (by go_size); have hz := hb.size; (try simp only [World.size_alloc, World.size_setCell, World.size_drew] at hz)))
    all_goals (refine bodyPost_ret (by simp [results, Tryd.results16, go_sem, cB1]; try rfl) rfl ?_; refine ⟨rfl, ?_⟩; (repeat' (first | (with_reducible exact Below.refl _ _) | (with_reducible refine Below.alloc ?_ ?_ _) | (with_reducible refine Below.setCell ?_ ?_ _) | (with_reducible refine Below.drew ?_) | (refine Below.trans ?_ (Below.mono (by with_reducible assumption) ?_)) | go_size)))
  · rw [(recReset_f hr).1, (recReset_f hr).2]
    by_cases hv : recV s sh wt g = true
    · have hp := recV_t.1 hv
      have h2 : (s != 2) = true := by rw [bned]; simp; unfold RecP at hp; omega
      clear hr hp
      go_enter Tryd.func16, Tryd.ntmps16
      go_wp2_with (first | (go_at_call 9; refine (implRecValid_any _ _ _ _ _).mono ?_; rintro e w1 ⟨rfl, hb⟩; have cB0 := keepB hb (g := w.heap.size) (by go_size); have fB0 := keepF hb (g := w.heap.size) (by go_size); have zB0 := keepZ hb (g := w.heap.size) (by go_size); have cB1 := keepB hb (g := w.heap.size + 1) (by go_size); have fB1 := keepF hb (g := w.heap.size + 1) (by go_size); have zB1 := keepZ hb (g := w.heap.size + 1) (by go_size); have hz := hb.size; (try simp only [World.size_alloc, World.size_setCell, World.size_drew] at hz)))
      all_goals (refine bodyPost_ret (by simp [results, Tryd.results16, go_sem, cB1]; try rfl) rfl ?_; refine ⟨rfl, ?_⟩; (repeat' (first | (with_reducible exact Below.refl _ _) | (with_reducible refine Below.alloc ?_ ?_ _) | (with_reducible refine Below.setCell ?_ ?_ _) | (with_reducible refine Below.drew ?_) | (refine Below.trans ?_ (Below.mono (by with_reducible assumption) ?_)) | go_size)))
    · have hv : recV s sh wt g = false := by simpa using hv
      clear hr
      go_enter Tryd.func16, Tryd.ntmps16
      go_wp2_with (first | (go_at_call 9; refine (implRecValid_any _ _ _ _ _).mono ?_; rintro e w1 ⟨rfl, hb⟩; have cB0 := keepB hb (g := w.heap.size) (by go_size); have fB0 := keepF hb (g := w.heap.size) (by go_size); have zB0 := keepZ hb (g := w.heap.size) (by go_size); have cB1 := keepB hb (g := w.heap.size + 1) (by go_size); have fB1 := keepF hb (g := w.heap.size + 1) (by go_size); have zB1 := keepZ hb (g := w.heap.size + 1) (by go_size); have hz := hb.size; (try simp only [World.size_alloc, World.size_setCell, World.size_drew] at hz)))
      all_goals (refine bodyPost_ret (by simp [results, Tryd.results16, go_sem, cB1]; try rfl) rfl ?_; refine ⟨rfl, ?_⟩; (repeat' (first | (with_reducible exact Below.refl _ _) | (with_reducible refine Below.alloc ?_ ?_ _) | (with_reducible refine Below.setCell ?_ ?_ _) | (with_reducible refine Below.drew ?_) | (refine Below.trans ?_ (Below.mono (by with_reducible assumption) ?_)) | go_size)))

instance (s sh wt g : Int) : Decidable (RecP s sh wt g) := by unfold RecP; infer_instance
def recTicks (s sh wt g : Int) : Int := if RecP s sh wt g ∧ ¬ s = 2 then (if s = 1 then wt + 5 else if sh = 0 then 0 else 5 - g) else -1
theorem recTicks_bad {s sh wt g : Int} (h : ¬ (RecP s sh wt g ∧ ¬ s = 2)) : recTicks s sh wt g = -1 := by unfold recTicks; rw [if_neg h]
theorem recTicks_lin {s sh wt g : Int} (h : RecP s sh wt g) (h2 : ¬ s = 2) : (s = 1 ∧ recTicks s sh wt g = wt + 5) ∨ (s = 0 ∧ sh = 0 ∧ wt = 0 ∧ g = 0 ∧ recTicks s sh wt g = 0) ∨ (s = 0 ∧ 0 < sh ∧ recTicks s sh wt g = 5 - g ∧ g ≤ 4) := by
  have e : recTicks s sh wt g = if s = 1 then wt + 5 else if sh = 0 then 0 else 5 - g := by unfold recTicks; rw [if_pos ⟨h, h2⟩]
  rw [e]
  unfold RecP at h
  by_cases h1 : s = 1
  · simp [h1]
  · have h0 : s = 0 := by omega
    by_cases h3 : sh = 0
    · simp [h0, h3]; omega
    · simp [h0, h3]; omega
theorem ticks_step {s sh wt g : Int} (h : RecP s sh wt g) (h2 : ¬ s = 2) (h0 : ¬ (s = 0 ∧ sh = 0 ∧ wt = 0 ∧ g = 0)) :
    RecP (recStep s sh wt g false).a (recStep s sh wt g false).b (recStep s sh wt g false).c (recStep s sh wt g false).d ∧ ¬ (recStep s sh wt g false).a = 2 ∧
    recTicks (recStep s sh wt g false).a (recStep s sh wt g false).b (recStep s sh wt g false).c (recStep s sh wt g false).d + 1 = recTicks s sh wt g := by
  have hl := recStep_lin_f h
  generalize recStep s sh wt g false = r at *
  have hp : RecP r.a r.b r.c r.d := by unfold RecP at *; omega
  have h2' : ¬ r.a = 2 := by unfold RecP at *; omega
  have t1 := recTicks_lin hp h2'
  have t2 := recTicks_lin h h2
  refine ⟨hp, h2', ?_⟩
  unfold RecP at *
  omega

theorem specRecTicks_any (s sh wt g : Int) (w : World) (hg : I64 g) (hw : I64 wt) :
    Calls Tryd.prog 23 #[.agg #[.int .i64 s, .int .i64 sh, .int .i64 wt, .int .i64 g]] w fun e w' => e = .returned (.int .i64 (recTicks s sh wt g)) ∧ Below w.heap.size w w' := by
  by_cases hv : recV s sh wt g = true
  · have hp := recV_t.1 hv
    by_cases h2 : s = 2
    · have e := recTicks_bad (s := s) (sh := sh) (wt := wt) (g := g) (by simp [h2])
      have HE := Lib.hid e; clear e
      have b2 : (s == 2) = true := by simp [h2]
      clear h2 hp
      go_enter Tryd.func23, Tryd.ntmps23
      go_wp2_with (first | (go_at_call 10; refine (specRecValid_any _ _ _ _ _).mono ?_; rintro e w1 ⟨rfl, hb⟩; have cB0 := keepB hb (g := w.heap.size) (by go_size); have fB0 := keepF hb (g := w.heap.size) (by go_size); have zB0 := keepZ hb (g := w.heap.size) (by go_size); have hz := hb.size; (try simp only [World.size_alloc, World.size_setCell, World.size_drew] at hz)))
      all_goals (go_ret; rw [HE.out]; refine ⟨rfl, ?_⟩; (repeat' (first | (with_reducible exact Below.refl _ _) | (with_reducible refine Below.alloc ?_ ?_ _) | (with_reducible refine Below.setCell ?_ ?_ _) | (with_reducible refine Below.drew ?_) | (refine Below.trans ?_ (Below.mono (by with_reducible assumption) ?_)) | go_size)))
    · have hl := recTicks_lin hp h2
      have b2 : (s == 2) = false := by simp [h2]
      unfold RecP at hp
      have HL := Lib.hid hl; clear hl
      have HP := Lib.hid hp; clear hp h2
      go_enter Tryd.func23, Tryd.ntmps23
      go_wp2_with (first | (go_at_call 10; refine (specRecValid_any _ _ _ _ _).mono ?_; rintro e w1 ⟨rfl, hb⟩; have cB0 := keepB hb (g := w.heap.size) (by go_size); have fB0 := keepF hb (g := w.heap.size) (by go_size); have zB0 := keepZ hb (g := w.heap.size) (by go_size); have hz := hb.size; (try simp only [World.size_alloc, World.size_setCell, World.size_drew] at hz)))
      all_goals (go_ret; go_light; refine ⟨?_, ?_⟩; (have hl := HL.out; have hp := HP.out; refine congrArg (fun b => Ending.returned (Value.int .i64 b)) ?_; clear HL HP; unfold I64 at *; (try simp only [beqd, wrap64, IntKind.wrap_i64, decide_eq_false_iff_not, decide_eq_true_eq] at *); omega); (repeat' (first | (with_reducible exact Below.refl _ _) | (with_reducible refine Below.alloc ?_ ?_ _) | (with_reducible refine Below.setCell ?_ ?_ _) | (with_reducible refine Below.drew ?_) | (refine Below.trans ?_ (Below.mono (by with_reducible assumption) ?_)) | go_size)))
  · have hv : recV s sh wt g = false := by simpa using hv
    have e := recTicks_bad (s := s) (sh := sh) (wt := wt) (g := g) (fun h => recV_f.1 hv h.1)
    have HE := Lib.hid e; clear e
    go_enter Tryd.func23, Tryd.ntmps23
    go_wp2_with (first | (go_at_call 10; refine (specRecValid_any _ _ _ _ _).mono ?_; rintro e w1 ⟨rfl, hb⟩; have cB0 := keepB hb (g := w.heap.size) (by go_size); have fB0 := keepF hb (g := w.heap.size) (by go_size); have zB0 := keepZ hb (g := w.heap.size) (by go_size); have hz := hb.size; (try simp only [World.size_alloc, World.size_setCell, World.size_drew] at hz)))
    all_goals (go_ret; rw [HE.out]; refine ⟨rfl, ?_⟩; (repeat' (first | (with_reducible exact Below.refl _ _) | (with_reducible refine Below.alloc ?_ ?_ _) | (with_reducible refine Below.setCell ?_ ?_ _) | (with_reducible refine Below.drew ?_) | (refine Below.trans ?_ (Below.mono (by with_reducible assumption) ?_)) | go_size)))

theorem implRecTicks_any (s sh wt g : Int) (w : World) :
    Calls Tryd.prog 18 #[.agg #[.int .i64 s, .int .i64 sh, .int .i64 wt, .int .i64 g]] w fun e w' => e = .returned (.int .i64 (recTicks s sh wt g)) ∧ Below w.heap.size w w' := by
  by_cases hv : recV s sh wt g = true
  · have hp := recV_t.1 hv
    by_cases h2 : s = 2
    · have e := recTicks_bad (s := s) (sh := sh) (wt := wt) (g := g) (by simp [h2])
      have HE := Lib.hid e; clear e
      have b2 : (s == 2) = true := by simp [h2]
      clear h2 hp
      go_enter Tryd.func18, Tryd.ntmps18
      go_wp2_with (first | (go_at_call 9; refine (implRecValid_any _ _ _ _ _).mono ?_; rintro e w1 ⟨rfl, hb⟩; have cB0 := keepB hb (g := w.heap.size) (by go_size); have fB0 := keepF hb (g := w.heap.size) (by go_size); have zB0 := keepZ hb (g := w.heap.size) (by go_size); have hz := hb.size; (try simp only [World.size_alloc, World.size_setCell, World.size_drew] at hz)))
      all_goals (go_ret; rw [HE.out]; refine ⟨rfl, ?_⟩; (repeat' (first | (with_reducible exact Below.refl _ _) | (with_reducible refine Below.alloc ?_ ?_ _) | (with_reducible refine Below.setCell ?_ ?_ _) | (with_reducible refine Below.drew ?_) | (refine Below.trans ?_ (Below.mono (by with_reducible assumption) ?_)) | go_size)))
    · have b2 : (s == 2) = false := by simp [h2]
      have HP := Lib.hid hp; clear hp
      have H2 := Lib.hid h2; clear h2
      go_enter Tryd.func18, Tryd.ntmps18
      go_wp2_with (first | (go_at_call 9; refine (implRecValid_any _ _ _ _ _).mono ?_; rintro e w1 ⟨rfl, hb⟩; have cB0 := keepB hb (g := w.heap.size) (by go_size); have fB0 := keepF hb (g := w.heap.size) (by go_size); have zB0 := keepZ hb (g := w.heap.size) (by go_size); have hz := hb.size; (try simp only [World.size_alloc, World.size_setCell, World.size_drew] at hz)))
      have h0 := HP.out
      have h20 := H2.out
      have t0 := recTicks_lin h0 h20
      have ht0 : 0 ≤ recTicks s sh wt g ∧ recTicks s sh wt g ≤ 100 := by unfold RecP at h0; omega
      clear h0 h20 t0
      generalize hT : recTicks s sh wt g = T at *
      have HT := Lib.hid hT; clear hT
      go_loopw [3] (fun t wr => ∃ (a b c d k : Int), t = .int .i64 k ∧ Hid (RecP a b c d ∧ ¬ a = 2 ∧ k + recTicks a b c d = T) ∧ 0 ≤ k ∧ k ≤ T ∧
          Hid (∀ i, wr.cell? ⟨w.heap.size, i, none⟩ = #[Value.int .i64 a, .int .i64 b, .int .i64 c, .int .i64 d][i]?) ∧ Hid (∀ i, wr.frozen? ⟨w.heap.size, i, none⟩ = false) ∧ Hid (w.heap.size < wr.heap.size) ∧ Hid (Below w.heap.size w wr))
        (fun t _ => (T - intOf t).toNat)
      case atStart =>
        have h0 := HP.out
        have h20 := H2.out
        refine ⟨s, sh, wt, g, 0, rfl, ⟨h0, h20, by rw [HT.out]; omega⟩, by omega, by omega, fun i => ?_, fun i => ?_, ?_, ?_⟩
        · rw [cB0]; simp
        · rw [fB0]; simp [go_sem]
        · unfold Hid; omega
        · unfold Hid; (repeat' (first | (with_reducible exact Below.refl _ _) | (with_reducible refine Below.alloc ?_ ?_ _) | (with_reducible refine Below.setCell ?_ ?_ _) | (with_reducible refine Below.drew ?_) | (refine Below.trans ?_ (Below.mono (by with_reducible assumption) ?_)) | go_size))
      case round =>
        obtain ⟨a, b, c, d, k, rfl, H1, hk, hkT, HC, HF, HZ, HB⟩ := hrel
        clear cB0 fB0 hz hb
        have cB0 := HC.out
        have fB0 := HF.out
        have hz0 := HZ.out
        go_wp2_with fail
        · ((try (have q : a = 0 := (by with_reducible assumption); subst q)); (try (have q : b = 0 := (by with_reducible assumption); subst q)); (try (have q : c = 0 := (by with_reducible assumption); subst q)); (try (have q : d = 0 := (by with_reducible assumption); subst q)))
          go_ret
          obtain ⟨h1, h2, h3⟩ := H1.out
          have t1 := recTicks_lin h1 h2
          have hT := HT.out
          refine ⟨congrArg (fun b => Ending.returned (Value.int .i64 b)) (by omega), HB.out⟩
        all_goals
          ((try (have q : a = 0 := (by with_reducible assumption); subst q)); (try (have q : b = 0 := (by with_reducible assumption); subst q)); (try (have q : c = 0 := (by with_reducible assumption); subst q)); (try (have q : d = 0 := (by with_reducible assumption); subst q)))
          (refine (implRecStep_any _ _ _ _ _ _).mono ?_; rintro e w2 ⟨rfl, hb⟩)
          obtain ⟨h1, h2, h3⟩ := H1.out
          have t1 := recTicks_lin h1 h2
          have ts := ticks_step h1 h2 (by omega)
          have hk1 : k < T := by unfold RecP at h1; omega
          have HTS := Lib.hid ts; clear ts t1
          have HB2 : Hid (Below w.heap.size w w2) := HB.out.trans (hb.mono (Nat.le_of_lt hz0))
          have cB1 := keepB hb hz0
          have fB1 := keepF hb hz0
          have hz1 := Nat.lt_of_lt_of_le hz0 hb.size
          go_wp2
          go_roundw
          case rel =>
            obtain ⟨g1, g2, g3⟩ := HTS.out
            refine ⟨_, _, _, _, k + 1, by go_num, ⟨g1, g2, by omega⟩, by omega, by omega, fun i => ?_, fun i => ?_, ?_, ?_⟩
            · exact set4 (fun i => (cB1 i).trans (cB0 i)) i
            · simp only [World.frozen?_setCell]; rw [fB1, fB0]
            · unfold Hid; simp; omega
            · unfold Hid; have hB2 := HB2.out; (repeat' (first | (with_reducible exact Below.refl _ _) | (with_reducible refine Below.alloc ?_ ?_ _) | (with_reducible refine Below.setCell ?_ ?_ _) | (with_reducible refine Below.drew ?_) | (refine Below.trans ?_ (Below.mono (by with_reducible assumption) ?_)) | go_size))
          case measure => simp [intOf]; omega
  · have hv : recV s sh wt g = false := by simpa using hv
    have e := recTicks_bad (s := s) (sh := sh) (wt := wt) (g := g) (fun h => recV_f.1 hv h.1)
    have HE := Lib.hid e; clear e
    go_enter Tryd.func18, Tryd.ntmps18
    go_wp2_with (first | (go_at_call 9; refine (implRecValid_any _ _ _ _ _).mono ?_; rintro e w1 ⟨rfl, hb⟩; have cB0 := keepB hb (g := w.heap.size) (by go_size); have fB0 := keepF hb (g := w.heap.size) (by go_size); have zB0 := keepZ hb (g := w.heap.size) (by go_size); have hz := hb.size; (try simp only [World.size_alloc, World.size_setCell, World.size_drew] at hz)))
    all_goals (go_ret; rw [HE.out]; refine ⟨rfl, ?_⟩; (repeat' (first | (with_reducible exact Below.refl _ _) | (with_reducible refine Below.alloc ?_ ?_ _) | (with_reducible refine Below.setCell ?_ ?_ _) | (with_reducible refine Below.drew ?_) | (refine Below.trans ?_ (Below.mono (by with_reducible assumption) ?_)) | go_size)))
end Go.Proofs.YtkibkmhmlkfhfaaDoor
