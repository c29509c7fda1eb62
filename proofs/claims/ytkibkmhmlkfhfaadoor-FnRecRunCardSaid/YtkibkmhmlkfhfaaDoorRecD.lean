/- A run of a recloser over ticks: contracts of the program's and the reference's functions, and the law's walk. -/
import Derived.Test.YtkibkmhmlkfhfaaDoorRecC
import Derived.Test.YtkibkmhmlkfhfaaDoorSl1
import Derived.Test.YtkibkmhmlkfhfaaDoorBk
import Derived.StillTailTactics
import Derived.Deep.RegionHeld3
import Derived.Deep.DeepCutAuto
namespace Go.Proofs.YtkibkmhmlkfhfaaDoor
open Go.RowKit
set_option linter.unusedSimpArgs false
set_option linter.unusedVariables false

/-- The recloser after ticks, and how often it opened. -/
def recRun (r : R4) : List Bool → R4
  | [] => r
  | f :: l => recRun (recStep r.a r.b r.c r.d f) l
def recOpen (r : R4) : List Bool → Int
  | [] => 0
  | f :: l => (if r.a = 0 ∧ ¬ (recStep r.a r.b r.c r.d f).a = 0 then 1 else 0) + recOpen (recStep r.a r.b r.c r.d f) l
theorem recRun_snoc (r : R4) (l : List Bool) (f : Bool) : recRun r (l ++ [f]) = recStep (recRun r l).a (recRun r l).b (recRun r l).c (recRun r l).d f := by
  induction l generalizing r with
  | nil => rfl
  | cons g l ih => exact ih _
theorem recOpen_snoc (r : R4) (l : List Bool) (f : Bool) : recOpen r (l ++ [f]) = recOpen r l + (if (recRun r l).a = 0 ∧ ¬ (recStep (recRun r l).a (recRun r l).b (recRun r l).c (recRun r l).d f).a = 0 then 1 else 0) := by
  induction l generalizing r with
  | nil => show _ + 0 = 0 + _; rw [Int.add_zero, Int.zero_add]; rfl
  | cons g l ih => simp only [recOpen, List.cons_append, ih, recRun]; omega
theorem recOpen_bd (r : R4) (l : List Bool) : 0 ≤ recOpen r l ∧ recOpen r l ≤ l.length := by
  induction l generalizing r with
  | nil => simp [recOpen]
  | cons g l ih => have := ih (recStep r.a r.b r.c r.d g); simp only [recOpen, List.length_cons]; split <;> omega

def runOut (s sh wt g : Int) (l : List Bool) : R4 := if recV s sh wt g = true then recRun ⟨s, sh, wt, g⟩ l else ⟨0, 0, 0, 0⟩
def runN (s sh wt g : Int) (l : List Bool) : Int := if recV s sh wt g = true then recOpen ⟨s, sh, wt, g⟩ l else 0

theorem take_snoc {α : Type} (xs : List α) (k : Nat) (h : k < xs.length) : xs.take (k + 1) = xs.take k ++ [xs[k]] := by
  rw [List.take_succ_eq_append_getElem h]

set_option maxHeartbeats 1000000 in
theorem implRecRun_any (s sh wt g : Int) (A : Option Addr) (c : Nat) (xs : List Bool) (w : World) (hR : Reads 1 boolC w w.heap.size A xs) (hl : xs.length ≤ 1048576) :
    Calls Tryd.prog 20 #[.agg #[.int .i64 s, .int .i64 sh, .int .i64 wt, .int .i64 g], .slice A xs.length c] w fun e w' => e = .returned (.tuple #[rv (runOut s sh wt g xs), .int .i64 (runN s sh wt g xs)]) ∧ Below w.heap.size w w' := by
  by_cases hv : recV s sh wt g = true
  · have e1 : runOut s sh wt g xs = recRun ⟨s, sh, wt, g⟩ xs := by simp [runOut, hv]
    have e2 : runN s sh wt g xs = recOpen ⟨s, sh, wt, g⟩ xs := by simp [runN, hv]
    have HE := Lib.hid (And.intro e1 e2); clear e1 e2
    have HR := Lib.hid hR; clear hR
    generalize hn : xs.length = n at hl ⊢
    have HN := Lib.hid hn; clear hn
    go_enter Tryd.func20, Tryd.ntmps20
    go_wp2_with (first | (go_at_call 9; refine (implRecValid_any _ _ _ _ _).mono ?_; rintro e w1 ⟨rfl, hb⟩; have cB0 := keepB hb (g := w.heap.size) (by go_size); have fB0 := keepF hb (g := w.heap.size) (by go_size); have zB0 := keepZ hb (g := w.heap.size) (by go_size); have cB1 := keepB hb (g := w.heap.size + 1) (by go_size); have fB1 := keepF hb (g := w.heap.size + 1) (by go_size); have zB1 := keepZ hb (g := w.heap.size + 1) (by go_size); have hz := hb.size; (try simp only [World.size_alloc, World.size_setCell, World.size_drew] at hz)))
    have K0 := (((Bk.new w 24 #[.int .i64 s, .int .i64 sh, .int .i64 wt, .int .i64 g]).alloc (.cells #[Value.int .i64 0, .int .i64 0, .int .i64 0, .int .i64 0] 24)).keep hb)
    have K1 := ((Bk.new_at (w.alloc (.cells #[.int .i64 s, .int .i64 sh, .int .i64 wt, .int .i64 g] 24)) 24 #[.int .i64 0, .int .i64 0, .int .i64 0, .int .i64 0] (g := w.heap.size + 1) (by simp)).keep hb)
    have HK := Lib.hid (And.intro K0 K1); clear K0 K1
    clear cB0 fB0 cB1 fB1 zB0 zB1
    go_loopw [6, 16] (fun t u wr => ∃ (i : Nat) (a b c d k : Int), u = .int .i64 i ∧ i ≤ n ∧ t = .int .i64 k ∧ 0 ≤ k ∧ k ≤ i ∧ Hid (k = recOpen ⟨s, sh, wt, g⟩ (xs.take i) ∧ recRun ⟨s, sh, wt, g⟩ (xs.take i) = ⟨a, b, c, d⟩) ∧
          Hid (Bk wr w.heap.size 24 #[.int .i64 a, .int .i64 b, .int .i64 c, .int .i64 d] ∧ Bk wr (w.heap.size + 1) 24 #[.int .i64 0, .int .i64 0, .int .i64 0, .int .i64 0]) ∧ Hid (Below w.heap.size w wr))
        (fun _ u _ => n - (intOf u).toNat)
    case atStart => exact ⟨0, s, sh, wt, g, 0, rfl, Nat.zero_le _, rfl, Int.le_refl _, Int.le_refl _, ⟨by simp [recOpen], by simp [recRun]⟩, HK, by unfold Hid; (repeat' (first | (with_reducible exact Below.refl _ _) | (with_reducible refine Below.alloc ?_ ?_ _) | (with_reducible refine Below.setCell ?_ ?_ _) | (with_reducible refine Below.drew ?_) | (refine Below.trans ?_ (Below.mono (by with_reducible assumption) ?_)) | go_size))⟩
    case round =>
      obtain ⟨i, a, b, c, d, k, rfl, hi, rfl, hk0, hki, H1, HK2, HB⟩ := hrel
      clear hz hb HK
      obtain ⟨K0, K1⟩ := HK2.out
      have cB0 := K0.cell
      have fB0 := K0.frozen
      have cB1 := K1.cell
      have fB1 := K1.frozen
      have hz1 := K1.lt
      have hz0 : w.heap.size < wr.heap.size := by omega
      clear K0 K1
      by_cases hlt : i < n
      · have hx : i < xs.length := by rw [HN.out]; exact hlt
        obtain ⟨bb, off, rfl, hb0, hc⟩ := HR.out.at1 hx
        have hc1 : wr.cell? ⟨bb, off + i, none⟩ = some (.bool xs[i]) := (HB.out.cell (p := ⟨bb, off + i, none⟩) hb0).trans hc
        have hsn := recRun_snoc ⟨s, sh, wt, g⟩ (xs.take i) xs[i]
        have hso := recOpen_snoc ⟨s, sh, wt, g⟩ (xs.take i) xs[i]
        rw [← take_snoc xs i hx, H1.out.2] at hsn hso
        rw [← H1.out.1] at hso
        have HS := Lib.hid (And.intro hsn hso); clear hsn hso hc
        generalize xs[i] = f at hc1 HS
        go_wp2_with fail; ((with_reducible refine (implRecStep_any _ _ _ _ _ _).mono ?_); rintro e w2 ⟨rfl, hb_1⟩); have cB0_1 := keepB hb_1 (g := w.heap.size) (by go_size); have fB0_1 := keepF hb_1 (g := w.heap.size) (by go_size); have zB0_1 := keepZ hb_1 (g := w.heap.size) (by go_size); have cB1_1 := keepB hb_1 (g := w.heap.size + 1) (by go_size); have fB1_1 := keepF hb_1 (g := w.heap.size + 1) (by go_size); have zB1_1 := keepZ hb_1 (g := w.heap.size + 1) (by go_size); have hz_1 := hb_1.size; (try simp only [World.size_alloc, World.size_setCell, World.size_drew] at hz_1)
        generalize hr : recStep a b c d f = r at HS ⊢
        clear hr
        have HB2 : Hid (Below w.heap.size w w2) := HB.out.trans (hb_1.mono (Nat.le_of_lt hz0))
        have HK3 := Lib.hid (And.intro (HK2.out.1.keep hb_1) (HK2.out.2.keep hb_1))
        have hcase : ((a == 0) = true ∧ (r.a != 0) = true ∧ Hid (a = 0 ∧ ¬ r.a = 0)) ∨ ((a == 0) = false ∧ Hid (¬ (a = 0 ∧ ¬ r.a = 0))) ∨ ((a == 0) = true ∧ (r.a != 0) = false ∧ Hid (¬ (a = 0 ∧ ¬ r.a = 0))) := by
          unfold Hid
          by_cases ha : a = 0 <;> by_cases hr : r.a = 0 <;> simp [ha, hr]
        rcases hcase with ⟨q1, q2, HQ⟩ | ⟨q1, HQ⟩ | ⟨q1, q2, HQ⟩
        · go_wp2
          go_roundw
          case rel =>
            obtain ⟨s1, s2⟩ := HS.out
            rw [if_pos HQ.out] at s2
            exact ⟨i + 1, r.a, r.b, r.c, r.d, k + 1, by go_num, by omega, rfl, by omega, by omega, ⟨s2.symm, s1⟩, ⟨HK3.out.1.set4.alloc _, (HK3.out.2.far4 (by omega)).alloc _⟩, by unfold Hid; have hB2 := HB2.out; (repeat' (first | (with_reducible exact Below.refl _ _) | (with_reducible refine Below.alloc ?_ ?_ _) | (with_reducible refine Below.setCell ?_ ?_ _) | (with_reducible refine Below.drew ?_) | (refine Below.trans ?_ (Below.mono (by with_reducible assumption) ?_)) | go_size))⟩
          case measure => simp [intOf]; omega
        · go_wp2
          go_roundw
          case rel =>
            obtain ⟨s1, s2⟩ := HS.out
            rw [if_neg HQ.out] at s2
            exact ⟨i + 1, r.a, r.b, r.c, r.d, k, by go_num, by omega, rfl, by omega, by omega, ⟨by omega, s1⟩, ⟨HK3.out.1.set4.alloc _, (HK3.out.2.far4 (by omega)).alloc _⟩, by unfold Hid; have hB2 := HB2.out; (repeat' (first | (with_reducible exact Below.refl _ _) | (with_reducible refine Below.alloc ?_ ?_ _) | (with_reducible refine Below.setCell ?_ ?_ _) | (with_reducible refine Below.drew ?_) | (refine Below.trans ?_ (Below.mono (by with_reducible assumption) ?_)) | go_size))⟩
          case measure => simp [intOf]; omega
        · go_wp2
          go_roundw
          case rel =>
            obtain ⟨s1, s2⟩ := HS.out
            rw [if_neg HQ.out] at s2
            exact ⟨i + 1, r.a, r.b, r.c, r.d, k, by go_num, by omega, rfl, by omega, by omega, ⟨by omega, s1⟩, ⟨HK3.out.1.set4.alloc _, (HK3.out.2.far4 (by omega)).alloc _⟩, by unfold Hid; have hB2 := HB2.out; (repeat' (first | (with_reducible exact Below.refl _ _) | (with_reducible refine Below.alloc ?_ ?_ _) | (with_reducible refine Below.setCell ?_ ?_ _) | (with_reducible refine Below.drew ?_) | (refine Below.trans ?_ (Below.mono (by with_reducible assumption) ?_)) | go_size))⟩
          case measure => simp [intOf]; omega
      · go_wp2
        refine bodyPost_ret (by simp [results, Tryd.results20, go_sem, cB1]; try rfl) rfl ?_
        obtain ⟨e1, e2⟩ := HE.out
        obtain ⟨s1, s2⟩ := H1.out
        rw [List.take_of_length_le (by rw [HN.out]; omega)] at s1 s2
        rw [e1, e2, s2, ← s1]
        refine ⟨rfl, ?_⟩
        have hB := HB.out
        (repeat' (first | (with_reducible exact Below.refl _ _) | (with_reducible refine Below.alloc ?_ ?_ _) | (with_reducible refine Below.setCell ?_ ?_ _) | (with_reducible refine Below.drew ?_) | (refine Below.trans ?_ (Below.mono (by with_reducible assumption) ?_)) | go_size))
  · have hv : recV s sh wt g = false := by simpa using hv
    have e1 : runOut s sh wt g xs = ⟨0, 0, 0, 0⟩ := by simp [runOut, hv]
    have e2 : runN s sh wt g xs = 0 := by simp [runN, hv]
    rw [e1, e2]
    clear hR
    go_enter Tryd.func20, Tryd.ntmps20
    go_wp2_with (first | (go_at_call 9; refine (implRecValid_any _ _ _ _ _).mono ?_; rintro e w1 ⟨rfl, hb⟩; have cB0 := keepB hb (g := w.heap.size) (by go_size); have fB0 := keepF hb (g := w.heap.size) (by go_size); have zB0 := keepZ hb (g := w.heap.size) (by go_size); have cB1 := keepB hb (g := w.heap.size + 1) (by go_size); have fB1 := keepF hb (g := w.heap.size + 1) (by go_size); have zB1 := keepZ hb (g := w.heap.size + 1) (by go_size); have hz := hb.size; (try simp only [World.size_alloc, World.size_setCell, World.size_drew] at hz)))
    all_goals (refine bodyPost_ret (by simp [results, Tryd.results20, go_sem, cB1]; try rfl) rfl ?_; refine ⟨rfl, ?_⟩; (repeat' (first | (with_reducible exact Below.refl _ _) | (with_reducible refine Below.alloc ?_ ?_ _) | (with_reducible refine Below.setCell ?_ ?_ _) | (with_reducible refine Below.drew ?_) | (refine Below.trans ?_ (Below.mono (by with_reducible assumption) ?_)) | go_size)))

set_option maxHeartbeats 1000000 in
theorem specRecRun_any (s sh wt g : Int) (A : Option Addr) (c : Nat) (xs : List Bool) (w : World) (hR : Reads 1 boolC w w.heap.size A xs) (hl : xs.length ≤ 1048576) :
    Calls Tryd.prog 21 #[.agg #[.int .i64 s, .int .i64 sh, .int .i64 wt, .int .i64 g], .slice A xs.length c] w fun e w' => e = .returned (.tuple #[rv (runOut s sh wt g xs), .int .i64 (runN s sh wt g xs)]) ∧ Below w.heap.size w w' := by
  by_cases hv : recV s sh wt g = true
  · have e1 : runOut s sh wt g xs = recRun ⟨s, sh, wt, g⟩ xs := by simp [runOut, hv]
    have e2 : runN s sh wt g xs = recOpen ⟨s, sh, wt, g⟩ xs := by simp [runN, hv]
    have HE := Lib.hid (And.intro e1 e2); clear e1 e2
    have HR := Lib.hid hR; clear hR
    generalize hn : xs.length = n at hl ⊢
    have HN := Lib.hid hn; clear hn
    go_enter Tryd.func21, Tryd.ntmps21
    go_wp2_with (first | (go_at_call 10; refine (specRecValid_any _ _ _ _ _).mono ?_; rintro e w1 ⟨rfl, hb⟩; have cB0 := keepB hb (g := w.heap.size) (by go_size); have fB0 := keepF hb (g := w.heap.size) (by go_size); have zB0 := keepZ hb (g := w.heap.size) (by go_size); have cB1 := keepB hb (g := w.heap.size + 1) (by go_size); have fB1 := keepF hb (g := w.heap.size + 1) (by go_size); have zB1 := keepZ hb (g := w.heap.size + 1) (by go_size); have hz := hb.size; (try simp only [World.size_alloc, World.size_setCell, World.size_drew] at hz)))
    have K0 := (((Bk.new w 24 #[.int .i64 s, .int .i64 sh, .int .i64 wt, .int .i64 g]).alloc (.cells #[Value.int .i64 0, .int .i64 0, .int .i64 0, .int .i64 0] 24)).keep hb)
    have K1 := ((Bk.new_at (w.alloc (.cells #[.int .i64 s, .int .i64 sh, .int .i64 wt, .int .i64 g] 24)) 24 #[.int .i64 0, .int .i64 0, .int .i64 0, .int .i64 0] (g := w.heap.size + 1) (by simp)).keep hb)
    have HK := Lib.hid (And.intro K0 K1); clear K0 K1
    clear cB0 fB0 cB1 fB1 zB0 zB1
    go_loopw [6, 7] (fun t u wr => ∃ (i : Nat) (a b c d k : Int), u = .int .i64 i ∧ i ≤ n ∧ t = .int .i64 k ∧ 0 ≤ k ∧ k ≤ i ∧ Hid (k = recOpen ⟨s, sh, wt, g⟩ (xs.take i) ∧ recRun ⟨s, sh, wt, g⟩ (xs.take i) = ⟨a, b, c, d⟩) ∧
          Hid (Bk wr w.heap.size 24 #[.int .i64 a, .int .i64 b, .int .i64 c, .int .i64 d] ∧ Bk wr (w.heap.size + 1) 24 #[.int .i64 0, .int .i64 0, .int .i64 0, .int .i64 0]) ∧ Hid (Below w.heap.size w wr))
        (fun _ u _ => n - (intOf u).toNat)
    case atStart => exact ⟨0, s, sh, wt, g, 0, rfl, Nat.zero_le _, rfl, Int.le_refl _, Int.le_refl _, ⟨by simp [recOpen], by simp [recRun]⟩, HK, by unfold Hid; (repeat' (first | (with_reducible exact Below.refl _ _) | (with_reducible refine Below.alloc ?_ ?_ _) | (with_reducible refine Below.setCell ?_ ?_ _) | (with_reducible refine Below.drew ?_) | (refine Below.trans ?_ (Below.mono (by with_reducible assumption) ?_)) | go_size))⟩
    case round =>
      obtain ⟨i, a, b, c, d, k, rfl, hi, rfl, hk0, hki, H1, HK2, HB⟩ := hrel
      clear hz hb HK
      obtain ⟨K0, K1⟩ := HK2.out
      have cB0 := K0.cell
      have fB0 := K0.frozen
      have cB1 := K1.cell
      have fB1 := K1.frozen
      have hz1 := K1.lt
      have hz0 : w.heap.size < wr.heap.size := by omega
      clear K0 K1
      by_cases hlt : i < n
      · have hx : i < xs.length := by rw [HN.out]; exact hlt
        obtain ⟨bb, off, rfl, hb0, hc⟩ := HR.out.at1 hx
        have hc1 : wr.cell? ⟨bb, off + i, none⟩ = some (.bool xs[i]) := (HB.out.cell (p := ⟨bb, off + i, none⟩) hb0).trans hc
        have hsn := recRun_snoc ⟨s, sh, wt, g⟩ (xs.take i) xs[i]
        have hso := recOpen_snoc ⟨s, sh, wt, g⟩ (xs.take i) xs[i]
        rw [← take_snoc xs i hx, H1.out.2] at hsn hso
        rw [← H1.out.1] at hso
        have HS := Lib.hid (And.intro hsn hso); clear hsn hso hc
        generalize xs[i] = f at hc1 HS
        have hi1 : (i : Int) < (n : Int) := by omega
        have hi0 : (0 : Int) ≤ (i : Int) := by omega
        have c0 : wr.cell? ⟨w.heap.size, 0, none⟩ = some (.int .i64 a) := by rw [cB0]; rfl
        have c1 : wr.cell? ⟨w.heap.size, 1, none⟩ = some (.int .i64 b) := by rw [cB0]; rfl
        have c2 : wr.cell? ⟨w.heap.size, 2, none⟩ = some (.int .i64 c) := by rw [cB0]; rfl
        have c3 : wr.cell? ⟨w.heap.size, 3, none⟩ = some (.int .i64 d) := by rw [cB0]; rfl
        have hbw : bb < wr.heap.size := Nat.lt_of_lt_of_le hb0 HB.out.size
        clear cB0 cB1 fB0 fB1
        go_upto_region 7 with fail
        go_cut [8] (fun s8 wx => ∃ g8 : Nat, s8 = .pointer (some ⟨g8, 0, none⟩) ∧ Hid (Bk wx g8 24 #[.int .i64 (recStep a b c d f).a, .int .i64 (recStep a b c d f).b, .int .i64 (recStep a b c d f).c, .int .i64 (recStep a b c d f).d] ∧ w.heap.size + 1 < g8 ∧ Below wr.heap.size wr wx))
        case first =>
          go_region_held3 (fun w' => w'.cell? ⟨w.heap.size, 0, none⟩ = some (.int .i64 a) ∧ w'.cell? ⟨w.heap.size, 1, none⟩ = some (.int .i64 b) ∧ w'.cell? ⟨w.heap.size, 2, none⟩ = some (.int .i64 c) ∧ w'.cell? ⟨w.heap.size, 3, none⟩ = some (.int .i64 d) ∧ w'.cell? ⟨bb, off + i, none⟩ = some (.bool f)) (simp [go_sem, World.cell?_alloc_past, *])
            (first | (go_at_call 14; refine (specRecStep_any _ _ _ _ _ _).mono ?_; rintro e w2 ⟨rfl, hb⟩; have cB0 := keepB hb (g := w.heap.size) (by go_size); have cB2 := keepB hb (g := bb) (by go_size); have zB0 := keepZ hb (g := w.heap.size) (by go_size); have zB2 := keepZ hb (g := bb) (by go_size); have cB3 := fun h => keepB hb (g := wr.heap.size) h; have fB3 := fun h => keepF hb (g := wr.heap.size) h; have zB3 := fun h => keepZ hb (g := wr.heap.size) h))
          · go_wp2_with fail
            go_meet
            have hb' : Below wr.heap.size wr w2 := undrew hb
            have hzz := hb'.size
            refine ⟨w2.heap.size, rfl, Bk.new _ _ _, by omega, ?_⟩
            (repeat' (first | (with_reducible exact Below.refl _ _) | (with_reducible refine Below.alloc ?_ ?_ _) | (with_reducible refine Below.setCell ?_ ?_ _) | (with_reducible refine Below.drew ?_) | (refine Below.trans ?_ (Below.mono (by with_reducible assumption) ?_)) | go_size))
          · go_wp2_with fail
            go_meet
            have hb' := undrew hb
            refine ⟨wr.heap.size, rfl, (Bk.keep (w := (wr.alloc _).drew) (Bk.new wr _ _) hb).set4, hz1, ?_⟩
            have hb2 := Below.trans (Below.alloc (Below.refl wr.heap.size wr) (Nat.le_refl _) _) (hb'.mono (by simp))
            clear hb hb'
            (repeat' (first | (with_reducible exact Below.refl _ _) | (with_reducible refine Below.alloc ?_ ?_ _) | (with_reducible refine Below.setCell ?_ ?_ _) | (with_reducible refine Below.drew ?_) | (refine Below.trans ?_ (Below.mono (by with_reducible assumption) ?_)) | go_size))
        case rest =>
          obtain ⟨g8, rfl, HG⟩ := hcut
          generalize hr : recStep a b c d f = r at HS HG
          clear hr hc1 c0 c1 c2 c3
          have HB2 : Hid (Below w.heap.size w wc) := HB.out.trans (HG.out.2.2.mono (Nat.le_of_lt hz0))
          have HK3 := Lib.hid (And.intro (HK2.out.1.keep HG.out.2.2) (And.intro (HK2.out.2.keep HG.out.2.2) HG.out.1))
          have cB0 := HK3.out.1.cell
          have fB0 := HK3.out.1.frozen
          have cB1 := HK3.out.2.1.cell
          have fB1 := HK3.out.2.1.frozen
          have cB2 := HG.out.1.cell
          have hg8 := HG.out.2.1
          have hzx := HK3.out.2.1.lt
          have hcase : ((a == 0) = true ∧ (r.a != 0) = true ∧ Hid (a = 0 ∧ ¬ r.a = 0)) ∨ ((a == 0) = false ∧ Hid (¬ (a = 0 ∧ ¬ r.a = 0))) ∨ ((a == 0) = true ∧ (r.a != 0) = false ∧ Hid (¬ (a = 0 ∧ ¬ r.a = 0))) := by
            unfold Hid
            by_cases ha : a = 0 <;> by_cases hr : r.a = 0 <;> simp [ha, hr]
          rcases hcase with ⟨q1, q2, HQ⟩ | ⟨q1, HQ⟩ | ⟨q1, q2, HQ⟩
          · go_wp2
            go_roundw
            case rel =>
              obtain ⟨s1, s2⟩ := HS.out
              rw [if_pos HQ.out] at s2
              exact ⟨i + 1, r.a, r.b, r.c, r.d, k + 1, by go_num, by omega, rfl, by omega, by omega, ⟨s2.symm, s1⟩, ⟨HK3.out.1.set4, HK3.out.2.1.far4 (by omega)⟩, by unfold Hid; have hB2 := HB2.out; (repeat' (first | (with_reducible exact Below.refl _ _) | (with_reducible refine Below.alloc ?_ ?_ _) | (with_reducible refine Below.setCell ?_ ?_ _) | (with_reducible refine Below.drew ?_) | (refine Below.trans ?_ (Below.mono (by with_reducible assumption) ?_)) | go_size))⟩
            case measure => simp [intOf]; omega
          · go_wp2
            go_roundw
            case rel =>
              obtain ⟨s1, s2⟩ := HS.out
              rw [if_neg HQ.out] at s2
              exact ⟨i + 1, r.a, r.b, r.c, r.d, k, by go_num, by omega, rfl, by omega, by omega, ⟨by omega, s1⟩, ⟨HK3.out.1.set4, HK3.out.2.1.far4 (by omega)⟩, by unfold Hid; have hB2 := HB2.out; (repeat' (first | (with_reducible exact Below.refl _ _) | (with_reducible refine Below.alloc ?_ ?_ _) | (with_reducible refine Below.setCell ?_ ?_ _) | (with_reducible refine Below.drew ?_) | (refine Below.trans ?_ (Below.mono (by with_reducible assumption) ?_)) | go_size))⟩
            case measure => simp [intOf]; omega
          · go_wp2
            go_roundw
            case rel =>
              obtain ⟨s1, s2⟩ := HS.out
              rw [if_neg HQ.out] at s2
              exact ⟨i + 1, r.a, r.b, r.c, r.d, k, by go_num, by omega, rfl, by omega, by omega, ⟨by omega, s1⟩, ⟨HK3.out.1.set4, HK3.out.2.1.far4 (by omega)⟩, by unfold Hid; have hB2 := HB2.out; (repeat' (first | (with_reducible exact Below.refl _ _) | (with_reducible refine Below.alloc ?_ ?_ _) | (with_reducible refine Below.setCell ?_ ?_ _) | (with_reducible refine Below.drew ?_) | (refine Below.trans ?_ (Below.mono (by with_reducible assumption) ?_)) | go_size))⟩
            case measure => simp [intOf]; omega
      · go_wp2
        refine bodyPost_ret (by simp [results, Tryd.results21, go_sem, cB1]; try rfl) rfl ?_
        obtain ⟨e1, e2⟩ := HE.out
        obtain ⟨s1, s2⟩ := H1.out
        rw [List.take_of_length_le (by rw [HN.out]; omega)] at s1 s2
        rw [e1, e2, s2, ← s1]
        refine ⟨rfl, ?_⟩
        have hB := HB.out
        (repeat' (first | (with_reducible exact Below.refl _ _) | (with_reducible refine Below.alloc ?_ ?_ _) | (with_reducible refine Below.setCell ?_ ?_ _) | (with_reducible refine Below.drew ?_) | (refine Below.trans ?_ (Below.mono (by with_reducible assumption) ?_)) | go_size))
  · have hv : recV s sh wt g = false := by simpa using hv
    have e1 : runOut s sh wt g xs = ⟨0, 0, 0, 0⟩ := by simp [runOut, hv]
    have e2 : runN s sh wt g xs = 0 := by simp [runN, hv]
    rw [e1, e2]
    clear hR
    go_enter Tryd.func21, Tryd.ntmps21
    go_wp2_with (first | (go_at_call 10; refine (specRecValid_any _ _ _ _ _).mono ?_; rintro e w1 ⟨rfl, hb⟩; have cB0 := keepB hb (g := w.heap.size) (by go_size); have fB0 := keepF hb (g := w.heap.size) (by go_size); have zB0 := keepZ hb (g := w.heap.size) (by go_size); have cB1 := keepB hb (g := w.heap.size + 1) (by go_size); have fB1 := keepF hb (g := w.heap.size + 1) (by go_size); have zB1 := keepZ hb (g := w.heap.size + 1) (by go_size); have hz := hb.size; (try simp only [World.size_alloc, World.size_setCell, World.size_drew] at hz)))
    all_goals (refine bodyPost_ret (by simp [results, Tryd.results21, go_sem, cB1]; try rfl) rfl ?_; refine ⟨rfl, ?_⟩; (repeat' (first | (with_reducible exact Below.refl _ _) | (with_reducible refine Below.alloc ?_ ?_ _) | (with_reducible refine Below.setCell ?_ ?_ _) | (with_reducible refine Below.drew ?_) | (refine Below.trans ?_ (Below.mono (by with_reducible assumption) ?_)) | go_size)))
end Go.Proofs.YtkibkmhmlkfhfaaDoor
