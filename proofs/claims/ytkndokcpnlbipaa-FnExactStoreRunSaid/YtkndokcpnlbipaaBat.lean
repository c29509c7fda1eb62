/- Batteries: validity, and a plan's run; two laws. -/
import Derived.Test.YtkndokcpnlbipaaL1
import Derived.Test.YtkndokcpnlbipaaSl1
namespace Go.Proofs.Ytkndokcpnlbipaa
open Go.RowKit
set_option linter.unusedSimpArgs false
set_option linter.unusedVariables false
theorem toBattery_any (s r l : Int) (w : World) :
    Calls Try.prog 9 #[.agg #[.int .i64 s, .int .i64 r, .int .i64 l]] w fun e w' => e = .returned (.agg #[.int .i64 s, .int .i64 r, .int .i64 l]) ∧ Below w.heap.size w w' := by
  go_enter Try.func9, Try.ntmps9
  go_wp2
  refine bodyPost_ret (v := .agg #[.int .i64 s, .int .i64 r, .int .i64 l]) (by simp [results, Try.results9, go_sem]) rfl ⟨rfl, ?_⟩
  (repeat' (first | (with_reducible exact Below.refl _ _) | (with_reducible refine Below.alloc ?_ ?_ _) | (with_reducible refine Below.setCell ?_ ?_ _) | (with_reducible refine Below.drew ?_) | (refine Below.trans ?_ (Below.mono (by with_reducible assumption) ?_)) | go_size))
theorem powerValid_any (n : Int) (w : World) :
    Calls Try.prog 27 #[.int .i64 n] w fun e w' => e = .returned (.bool (inB n 0 999)) ∧ w = w' := by
  go_enter Try.func27, Try.ntmps27
  go_wp2
  all_goals (go_ret; refine ⟨congrArg (fun b => Ending.returned (Value.bool b)) ?_, rfl⟩)
  all_goals (simp only [inB, ← Bool.decide_and]; first | (refine (decide_eq_true ?_).symm; omega) | (refine (decide_eq_false ?_).symm; omega) | (refine decide_eq_decide.2 ?_; omega))
def BatP (s r l : Int) : Prop := 0 ≤ s ∧ s ≤ 999 ∧ 0 ≤ r ∧ r ≤ 999 ∧ 0 ≤ l ∧ l ≤ s
instance (s r l : Int) : Decidable (BatP s r l) := by unfold BatP; infer_instance
def batV (s r l : Int) : Bool := decide (BatP s r l)
theorem batV_t {s r l : Int} : batV s r l = true ↔ BatP s r l := by simp [batV]
theorem batV_f {s r l : Int} : batV s r l = false ↔ ¬ BatP s r l := by simp [batV]
theorem implBatteryValid_any (s r l : Int) (w : World) :
    Calls Try.prog 10 #[.agg #[.int .i64 s, .int .i64 r, .int .i64 l]] w fun e w' => e = .returned (.bool (batV s r l)) ∧ Below w.heap.size w w' := by
  go_enter Try.func10, Try.ntmps10
  go_wp2_with (go_at_call 27; refine (powerValid_any _ _).mono ?_; rintro e w' ⟨rfl, rfl⟩)
  all_goals (go_ret; refine ⟨congrArg (fun b => Ending.returned (Value.bool b)) ?_, (Below.refl _ _).alloc (Nat.le_refl _) _⟩)
  all_goals (simp only [batV, BatP, inB, ← Bool.decide_and, decide_eq_true_eq, decide_eq_false_iff_not] at *; first | (refine (decide_eq_true ?_).symm; omega) | (refine (decide_eq_false ?_).symm; omega) | (refine decide_eq_decide.2 ?_; omega))
theorem specBatteryValid_any (s r l : Int) (w : World) :
    Calls Try.prog 8 #[.agg #[.int .i64 s, .int .i64 r, .int .i64 l]] w fun e w' => e = .returned (.bool (batV s r l)) ∧ Below w.heap.size w w' := by
  go_enter Try.func8, Try.ntmps8
  go_wp2_with (go_at_call 26; refine (l1In_any _ _ _ _).mono ?_; rintro e w' ⟨rfl, rfl⟩)
  all_goals (go_ret; refine ⟨congrArg (fun b => Ending.returned (Value.bool b)) ?_, (Below.refl _ _).alloc (Nat.le_refl _) _⟩)
  all_goals (simp only [batV, BatP, inB, ← Bool.decide_and, decide_eq_true_eq, decide_eq_false_iff_not] at *; first | (refine (decide_eq_true ?_).symm; omega) | (refine (decide_eq_false ?_).symm; omega) | (refine decide_eq_decide.2 ?_; omega))
theorem fnExactBatteryValid_any (s r l : Int) (w : World) (_ : I64 s) (_ : I64 r) (_ : I64 l) :
    Calls Try.prog 3 #[.agg #[.int .i64 s, .int .i64 r, .int .i64 l]] w fun e w' => e = .returned (.bool true) ∧ Below w.heap.size w w' := by
  go_enter Try.func3, Try.ntmps3
  go_wp2_with (first | (go_at_call 9; refine (toBattery_any _ _ _ _).mono ?_; rintro e w1 ⟨rfl, hb⟩; have cB0 := keepB hb (g := w.heap.size) (by go_size); have fB0 := keepF hb (g := w.heap.size) (by go_size); have zB0 := keepZ hb (g := w.heap.size) (by go_size); have hz := hb.size; (try simp only [World.size_alloc, World.size_setCell, World.size_drew] at hz)) | (go_at_call 8; refine (specBatteryValid_any _ _ _ _).mono ?_; rintro e w1 ⟨rfl, hb⟩; have cB0 := keepB hb (g := w.heap.size) (by go_size); have fB0 := keepF hb (g := w.heap.size) (by go_size); have zB0 := keepZ hb (g := w.heap.size) (by go_size); have hz := hb.size; (try simp only [World.size_alloc, World.size_setCell, World.size_drew] at hz)) | (go_at_call 10; refine (implBatteryValid_any _ _ _ _).mono ?_; rintro e w1 ⟨rfl, hb⟩; have cB0 := keepB hb (g := w.heap.size) (by go_size); have fB0 := keepF hb (g := w.heap.size) (by go_size); have zB0 := keepZ hb (g := w.heap.size) (by go_size); have hz := hb.size; (try simp only [World.size_alloc, World.size_setCell, World.size_drew] at hz)))
  go_ret
  refine ⟨rfl, ?_⟩; (repeat' (first | (with_reducible exact Below.refl _ _) | (with_reducible refine Below.alloc ?_ ?_ _) | (with_reducible refine Below.setCell ?_ ?_ _) | (with_reducible refine Below.drew ?_) | (refine Below.trans ?_ (Below.mono (by with_reducible assumption) ?_)) | go_size))

/-- The level after a plan; none where it fails. -/
def stRun (s r : Int) : Int → List Int → Option Int
  | l, [] => some l
  | l, n :: t => if -r ≤ n ∧ n ≤ r ∧ 0 ≤ l + n ∧ l + n ≤ s then stRun s r (l + n) t else none
def stVal (s r l : Int) (xs : List Int) : Int := if BatP s r l ∧ xs.length ≤ 12 then (stRun s r l xs).getD (-1) else -1
def stOk (s r l : Int) (xs : List Int) : Bool := decide (BatP s r l ∧ xs.length ≤ 12) && (stRun s r l xs).isSome
theorem stRun_step {s r l n : Int} {xs : List Int} {i : Nat} (hi : i < xs.length) (hx : xs[i] = n) : stRun s r l (xs.drop i) = if -r ≤ n ∧ n ≤ r ∧ 0 ≤ l + n ∧ l + n ≤ s then stRun s r (l + n) (xs.drop (i + 1)) else none := by
  rw [List.drop_eq_getElem_cons hi, hx]; rfl
theorem stEnd {a b : Int} {x y : Bool} (h1 : a = b) (h2 : x = y) : Ending.returned (.tuple #[.int .i64 a, .bool x]) = Ending.returned (.tuple #[.int .i64 b, .bool y]) := by rw [h1, h2]

set_option maxHeartbeats 1000000 in
theorem implStoreRun_any (s r l : Int) (A : Option Addr) (c : Nat) (xs : List Int) (w : World) (hR : Reads 1 intC w w.heap.size A xs) (hg : ∀ x ∈ xs, I64 x) (hl : xs.length ≤ 1048576) :
    Calls Try.prog 16 #[.agg #[.int .i64 s, .int .i64 r, .int .i64 l], .slice A xs.length c] w fun e w' => e = .returned (.tuple #[.int .i64 (stVal s r l xs), .bool (stOk s r l xs)]) ∧ Below w.heap.size w w' := by
  have HR := Lib.hid hR; clear hR
  have HG := Lib.hid hg; clear hg
  by_cases hP : BatP s r l ∧ xs.length ≤ 12
  · obtain ⟨hp, h12⟩ := hP
    have e1 : stVal s r l xs = (stRun s r l xs).getD (-1) := by unfold stVal; rw [if_pos ⟨hp, h12⟩]
    have e2 : stOk s r l xs = (stRun s r l xs).isSome := by simp [stOk, hp, h12]
    rw [e1, e2]
    clear e1 e2
    have hv := batV_t.2 hp
    have hp2 := hp
    unfold BatP at hp2
    obtain ⟨hs0, hs1, hr0, hr1, hl0, hl1⟩ := hp2
    generalize hO : stRun s r l xs = O
    have HO := Lib.hid hO; clear hO hp
    generalize hn : xs.length = n at h12 hl ⊢
    have HN := Lib.hid hn; clear hn
    go_enter Try.func16, Try.ntmps16
    go_wp2_with fail; ((with_reducible refine (implBatteryValid_any _ _ _ _).mono ?_); rintro e w1 ⟨rfl, hb_1⟩); have cB0_1 := keepB hb_1 (g := w.heap.size) (by go_size); have fB0_1 := keepF hb_1 (g := w.heap.size) (by go_size); have zB0_1 := keepZ hb_1 (g := w.heap.size) (by go_size); have hz_1 := hb_1.size; (try simp only [World.size_alloc, World.size_setCell, World.size_drew] at hz_1)
    have K0 := Lib.hid ((Bk.new w 25 #[.int .i64 s, .int .i64 r, .int .i64 l]).keep hb_1)
    have HB0 : Hid (Below w.heap.size w w1) := by unfold Hid; (repeat' (first | (with_reducible exact Below.refl _ _) | (with_reducible refine Below.alloc ?_ ?_ _) | (with_reducible refine Below.setCell ?_ ?_ _) | (with_reducible refine Below.drew ?_) | (refine Below.trans ?_ (Below.mono (by with_reducible assumption) ?_)) | go_size))
    go_wp2_with fail
    clear cB0_1 fB0_1 zB0_1
    go_loopw [6, 21] (fun t u wr => ∃ (i : Nat) (lv : Int), u = .int .i64 i ∧ i ≤ n ∧ t = .int .i64 lv ∧ 0 ≤ lv ∧ lv ≤ s ∧ Hid (stRun s r lv (xs.drop i) = O) ∧ Hid (Bk wr w.heap.size 25 #[.int .i64 s, .int .i64 r, .int .i64 l]) ∧ Hid (Below w.heap.size w wr)) (fun _ u _ => n - (intOf u).toNat)
    case atStart => exact ⟨0, l, rfl, Nat.zero_le _, rfl, hl0, hl1, HO, K0, HB0⟩
    case round =>
      obtain ⟨i, lv, rfl, hi, rfl, hlv0, hlv1, HA, HK, HB⟩ := hrel
      have c0 := HK.out.cell
      by_cases hlt : i < n
      · have hx : i < xs.length := by rw [HN.out]; exact hlt
        obtain ⟨bb, off, rfl, hb0, hc⟩ := HR.out.at1 hx
        have hc1 : wr.cell? ⟨bb, off + i, none⟩ = some (.int .i64 xs[i]) := (HB.out.cell (p := ⟨bb, off + i, none⟩) hb0).trans hc
        have hA := HA.out
        rw [stRun_step hx rfl] at hA
        have hg := HG.out xs[i] (List.getElem_mem hx)
        unfold I64 at hg
        obtain ⟨hg1, hg2⟩ := hg
        clear hc
        generalize xs[i] = x at hc1 hA hg1 hg2
        by_cases hok : -r ≤ x ∧ x ≤ r ∧ 0 ≤ lv + x ∧ lv + x ≤ s
        · rw [if_pos hok] at hA
          have HA2 := Lib.hid hA; clear hA
          obtain ⟨q1, q2, q3, q4⟩ := hok
          go_wp2
          all_goals try (exfalso; omega; done)
          go_roundw
          case rel => exact ⟨i + 1, lv + x, by go_num, by omega, rfl, by omega, by omega, HA2, HK, HB⟩
          case measure => simp [intOf]; omega
        · rw [if_neg hok] at hA
          have HA2 := Lib.hid hA; clear hA
          go_wp2
          all_goals try (exfalso; simp only [wrap64] at *; omega; done)
          all_goals (go_ret2; have hO := HA2.out; subst hO; exact ⟨rfl, HB.out⟩)
      · have hA := HA.out
        rw [List.drop_of_length_le (by rw [HN.out]; omega)] at hA
        have HA2 := Lib.hid hA; clear hA
        go_wp2
        go_ret2
        have hO := HA2.out; subst hO; exact ⟨rfl, HB.out⟩
  · have e1 : stVal s r l xs = -1 := by unfold stVal; rw [if_neg hP]
    have e2 : stOk s r l xs = false := by simp only [stOk, decide_eq_false hP, Bool.false_and]
    rw [e1, e2]
    clear e1 e2
    by_cases hp : BatP s r l
    · have h12 : 12 < xs.length := by rcases Nat.lt_or_ge 12 xs.length with h | h; exact h; exact absurd ⟨hp, h⟩ hP
      have hv := batV_t.2 hp
      clear hP hp
      go_enter Try.func16, Try.ntmps16
      go_wp2_with fail; ((with_reducible refine (implBatteryValid_any _ _ _ _).mono ?_); rintro e w1 ⟨rfl, hb_2⟩); have cB0_2 := keepB hb_2 (g := w.heap.size) (by go_size); have fB0_2 := keepF hb_2 (g := w.heap.size) (by go_size); have zB0_2 := keepZ hb_2 (g := w.heap.size) (by go_size); have hz_2 := hb_2.size; (try simp only [World.size_alloc, World.size_setCell, World.size_drew] at hz_2)
      go_wp2_with fail
      go_ret2
      refine ⟨rfl, ?_⟩; (repeat' (first | (with_reducible exact Below.refl _ _) | (with_reducible refine Below.alloc ?_ ?_ _) | (with_reducible refine Below.setCell ?_ ?_ _) | (with_reducible refine Below.drew ?_) | (refine Below.trans ?_ (Below.mono (by with_reducible assumption) ?_)) | go_size))
    · have hv := batV_f.2 hp
      clear hP hp
      go_enter Try.func16, Try.ntmps16
      go_wp2_with fail; ((with_reducible refine (implBatteryValid_any _ _ _ _).mono ?_); rintro e w1 ⟨rfl, hb_3⟩); have cB0_3 := keepB hb_3 (g := w.heap.size) (by go_size); have fB0_3 := keepF hb_3 (g := w.heap.size) (by go_size); have zB0_3 := keepZ hb_3 (g := w.heap.size) (by go_size); have hz_3 := hb_3.size; (try simp only [World.size_alloc, World.size_setCell, World.size_drew] at hz_3)
      go_wp2_with fail
      go_ret2
      refine ⟨rfl, ?_⟩; (repeat' (first | (with_reducible exact Below.refl _ _) | (with_reducible refine Below.alloc ?_ ?_ _) | (with_reducible refine Below.setCell ?_ ?_ _) | (with_reducible refine Below.drew ?_) | (refine Below.trans ?_ (Below.mono (by with_reducible assumption) ?_)) | go_size))
set_option maxHeartbeats 1000000 in
theorem specStoreRun_any (s r l : Int) (A : Option Addr) (c : Nat) (xs : List Int) (w : World) (hR : Reads 1 intC w w.heap.size A xs) (hg : ∀ x ∈ xs, I64 x) (hl : xs.length ≤ 1048576) :
    Calls Try.prog 14 #[.agg #[.int .i64 s, .int .i64 r, .int .i64 l], .slice A xs.length c] w fun e w' => e = .returned (.tuple #[.int .i64 (stVal s r l xs), .bool (stOk s r l xs)]) ∧ Below w.heap.size w w' := by
  have HR := Lib.hid hR; clear hR
  have HG := Lib.hid hg; clear hg
  by_cases hP : BatP s r l ∧ xs.length ≤ 12
  · obtain ⟨hp, h12⟩ := hP
    have e1 : stVal s r l xs = (stRun s r l xs).getD (-1) := by unfold stVal; rw [if_pos ⟨hp, h12⟩]
    have e2 : stOk s r l xs = (stRun s r l xs).isSome := by simp [stOk, hp, h12]
    rw [e1, e2]
    clear e1 e2
    have hv := batV_t.2 hp
    have hp2 := hp
    unfold BatP at hp2
    obtain ⟨hs0, hs1, hr0, hr1, hl0, hl1⟩ := hp2
    generalize hO : stRun s r l xs = O
    have HO := Lib.hid hO; clear hO hp
    generalize hn : xs.length = n at h12 hl ⊢
    have HN := Lib.hid hn; clear hn
    go_enter Try.func14, Try.ntmps14
    go_wp2_with fail; ((with_reducible refine (specBatteryValid_any _ _ _ _).mono ?_); rintro e w1 ⟨rfl, hb_4⟩); have cB0_4 := keepB hb_4 (g := w.heap.size) (by go_size); have fB0_4 := keepF hb_4 (g := w.heap.size) (by go_size); have zB0_4 := keepZ hb_4 (g := w.heap.size) (by go_size); have hz_4 := hb_4.size; (try simp only [World.size_alloc, World.size_setCell, World.size_drew] at hz_4)
    have K0 := Lib.hid ((Bk.new w 25 #[.int .i64 s, .int .i64 r, .int .i64 l]).keep hb_4)
    have HB0 : Hid (Below w.heap.size w w1) := by unfold Hid; (repeat' (first | (with_reducible exact Below.refl _ _) | (with_reducible refine Below.alloc ?_ ?_ _) | (with_reducible refine Below.setCell ?_ ?_ _) | (with_reducible refine Below.drew ?_) | (refine Below.trans ?_ (Below.mono (by with_reducible assumption) ?_)) | go_size))
    go_wp2_with fail
    clear cB0_4 fB0_4 zB0_4
    go_loopw [6, 7] (fun t u wr => ∃ (i : Nat) (lv : Int), u = .int .i64 i ∧ i ≤ n ∧ t = .int .i64 lv ∧ 0 ≤ lv ∧ lv ≤ s ∧ Hid (stRun s r lv (xs.drop i) = O) ∧ Hid (Bk wr w.heap.size 25 #[.int .i64 s, .int .i64 r, .int .i64 l]) ∧ Hid (Below w.heap.size w wr)) (fun _ u _ => n - (intOf u).toNat)
    case atStart => exact ⟨0, l, rfl, Nat.zero_le _, rfl, hl0, hl1, HO, K0, HB0⟩
    case round =>
      obtain ⟨i, lv, rfl, hi, rfl, hlv0, hlv1, HA, HK, HB⟩ := hrel
      have c0 := HK.out.cell
      by_cases hlt : i < n
      · have hx : i < xs.length := by rw [HN.out]; exact hlt
        obtain ⟨bb, off, rfl, hb0, hc⟩ := HR.out.at1 hx
        have hc1 : wr.cell? ⟨bb, off + i, none⟩ = some (.int .i64 xs[i]) := (HB.out.cell (p := ⟨bb, off + i, none⟩) hb0).trans hc
        have hA := HA.out
        rw [stRun_step hx rfl] at hA
        have hg := HG.out xs[i] (List.getElem_mem hx)
        unfold I64 at hg
        obtain ⟨hg1, hg2⟩ := hg
        clear hc
        generalize xs[i] = x at hc1 hA hg1 hg2
        have hi1 : (i : Int) < (n : Int) := by omega
        have hi0 : (0 : Int) ≤ (i : Int) := by omega
        by_cases q1 : -r ≤ x ∧ x ≤ r
        · have i1 : inB x (-r) r = true := inB_t.2 q1
          have hw : IntKind.i64.wrap (lv + x) = lv + x := IntWalk.i64_in _ (by omega)
          have hw2 : IntKind.i64.wrap (-r) = -r := IntWalk.i64_in _ (by omega)
          by_cases q2 : 0 ≤ lv + x ∧ lv + x ≤ s
          · rw [if_pos ⟨q1.1, q1.2, q2.1, q2.2⟩] at hA
            have i2 : inB (lv + x) 0 s = true := inB_t.2 q2
            have HA2 := Lib.hid hA; clear hA
            obtain ⟨q11, q12⟩ := q1
            obtain ⟨q21, q22⟩ := q2
            go_wp2_with fail
            go_quiet ((go_at_call 26; exact quietL (l1In_any _ _ _ _)))
            clear hw hw2
            go_wp2_with fail
            exact ⟨⟨i + 1, lv + x, by go_num, by omega, rfl, by omega, by omega, HA2, HK.out.drewN _, below_drewN' HB.out _⟩, by simp [intOf]; omega⟩
          · rw [if_neg (fun hh => q2 hh.2.2)] at hA
            have i2 : inB (lv + x) 0 s = false := inB_f.2 q2
            have HA2 := Lib.hid hA; clear hA q2
            go_wp2_with fail
            go_quiet ((go_at_call 26; exact quietL (l1In_any _ _ _ _)))
            clear hw hw2
            go_wp2_with fail
            go_ret2; have hO := HA2.out; subst hO; exact ⟨rfl, below_drewN' HB.out _⟩
        · rw [if_neg (fun hh => q1 ⟨hh.1, hh.2.1⟩)] at hA
          have i1 : inB x (-r) r = false := inB_f.2 q1
          have hw2 : IntKind.i64.wrap (-r) = -r := IntWalk.i64_in _ (by omega)
          have HA2 := Lib.hid hA; clear hA q1
          go_wp2_with fail
          go_quiet ((go_at_call 26; exact quietL (l1In_any _ _ _ _)))
          clear hw2
          go_wp2_with fail
          go_ret2; have hO := HA2.out; subst hO; exact ⟨rfl, below_drewN' HB.out _⟩
      · have hA := HA.out
        rw [List.drop_of_length_le (by rw [HN.out]; omega)] at hA
        have HA2 := Lib.hid hA; clear hA
        go_wp2
        go_ret2
        have hO := HA2.out; subst hO; exact ⟨rfl, HB.out⟩
  · have e1 : stVal s r l xs = -1 := by unfold stVal; rw [if_neg hP]
    have e2 : stOk s r l xs = false := by simp only [stOk, decide_eq_false hP, Bool.false_and]
    rw [e1, e2]
    clear e1 e2
    by_cases hp : BatP s r l
    · have h12 : 12 < xs.length := by rcases Nat.lt_or_ge 12 xs.length with h | h; exact h; exact absurd ⟨hp, h⟩ hP
      have hv := batV_t.2 hp
      clear hP hp
      go_enter Try.func14, Try.ntmps14
      go_wp2_with fail; ((with_reducible refine (specBatteryValid_any _ _ _ _).mono ?_); rintro e w1 ⟨rfl, hb_5⟩); have cB0_5 := keepB hb_5 (g := w.heap.size) (by go_size); have fB0_5 := keepF hb_5 (g := w.heap.size) (by go_size); have zB0_5 := keepZ hb_5 (g := w.heap.size) (by go_size); have hz_5 := hb_5.size; (try simp only [World.size_alloc, World.size_setCell, World.size_drew] at hz_5)
      go_wp2_with fail
      go_ret2
      refine ⟨rfl, ?_⟩; (repeat' (first | (with_reducible exact Below.refl _ _) | (with_reducible refine Below.alloc ?_ ?_ _) | (with_reducible refine Below.setCell ?_ ?_ _) | (with_reducible refine Below.drew ?_) | (refine Below.trans ?_ (Below.mono (by with_reducible assumption) ?_)) | go_size))
    · have hv := batV_f.2 hp
      clear hP hp
      go_enter Try.func14, Try.ntmps14
      go_wp2_with fail; ((with_reducible refine (specBatteryValid_any _ _ _ _).mono ?_); rintro e w1 ⟨rfl, hb_6⟩); have cB0_6 := keepB hb_6 (g := w.heap.size) (by go_size); have fB0_6 := keepF hb_6 (g := w.heap.size) (by go_size); have zB0_6 := keepZ hb_6 (g := w.heap.size) (by go_size); have hz_6 := hb_6.size; (try simp only [World.size_alloc, World.size_setCell, World.size_drew] at hz_6)
      go_wp2_with fail
      go_ret2
      refine ⟨rfl, ?_⟩; (repeat' (first | (with_reducible exact Below.refl _ _) | (with_reducible refine Below.alloc ?_ ?_ _) | (with_reducible refine Below.setCell ?_ ?_ _) | (with_reducible refine Below.drew ?_) | (refine Below.trans ?_ (Below.mono (by with_reducible assumption) ?_)) | go_size))
end Go.Proofs.Ytkndokcpnlbipaa
