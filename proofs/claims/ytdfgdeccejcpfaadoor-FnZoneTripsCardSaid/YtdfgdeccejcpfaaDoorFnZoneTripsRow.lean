/- For every input, laws.FnZoneTrips returns true, and its arguments read afterwards as before; the listed tables start as the program text lays them (the card ties them). -/
import Derived.Test.YtdfgdeccejcpfaaDoorProg
import Derived.Test.YtdfgdeccejcpfaaDoorRk
import Derived.Test.YtdfgdeccejcpfaaDoorHas
import Derived.Test.YtdfgdeccejcpfaaDoorOth
import Derived.Test.YtdfgdeccejcpfaaDoorSpE
import Derived.Test.YtdfgdeccejcpfaaDoorApp
import Derived.Test.YtdfgdeccejcpfaaDoorZnU
import Derived.Test.YtdfgdeccejcpfaaDoorSpK
import Derived.Test.YtdfgdeccejcpfaaDoorAppS
import Derived.Deep.RegionHeldLaw
import Derived.Test.YtdfgdeccejcpfaaDoorSpL
import Derived.Test.YtdfgdeccejcpfaaDoorZf
import Derived.Test.YtdfgdeccejcpfaaDoorZl
import Derived.Test.YtdfgdeccejcpfaaDoorOpen
import Derived.Test.YtdfgdeccejcpfaaDoorAppG
import Derived.Deep.RegionHeld3
import Derived.Test.YtdfgdeccejcpfaaDoorDrZt
import Derived.Test.YtdfgdeccejcpfaaDoorRows
import Derived.Test.YtdfgdeccejcpfaaDoorCards
import Derived.Test.YtdfgdeccejcpfaaDoorTie
import Derived.LaidMore
import Derived.Stop.Joined
import Derived.SevenTiedAt
/- Small functions of the laws: are two lists equal, sums, counts. -/
namespace Go.Proofs.YtdfgdeccejcpfaaDoor
open Go.RowKit Go.ChangeShapes Go.WideShapes Go.Deep
set_option linter.unusedSimpArgs false
set_option linter.unusedVariables false
theorem sameInts_any (A B : Option Addr) (c d : Nat) (xs : List Int) (w : World) (hA : Reads 1 intC w w.heap.size A xs) (hB : Reads 1 intC w w.heap.size B xs) (hl : xs.length ≤ 1048576) :
    Calls Tryd.prog 10 #[.slice A xs.length c, .slice B xs.length d] w fun e w' => e = .returned (.bool true) ∧ Below w.heap.size w w' := by
  have HA := Lib.hid hA; clear hA
  have HB := Lib.hid hB; clear hB
  generalize hn : xs.length = n at hl ⊢
  have HN := Lib.hid hn; clear hn
  have hne : ((n : Int) != (n : Int)) = false := by simp
  go_enter Tryd.func10, Tryd.ntmps10
  go_wp2_with fail
  go_loopw [5] (fun t wr => ∃ i : Nat, t = .int .i64 i ∧ i ≤ n ∧ Hid (∃ m, wr = w.drewN m)) (fun t _ => n - (intOf t).toNat)
  case atStart => exact ⟨0, rfl, Nat.zero_le _, ⟨0, rfl⟩⟩
  case round =>
    obtain ⟨i, rfl, hi, HW⟩ := hrel
    obtain ⟨m, rfl⟩ := HW.out
    clear HW
    by_cases hlt : i < n
    · have hx : i < xs.length := by rw [HN.out]; exact hlt
      obtain ⟨b, off, rfl, _, hc⟩ := HA.out.at1 hx
      obtain ⟨b', off', rfl, _, hc'⟩ := HB.out.at1 hx
      have hc1 : w.cell? ⟨b, off + i, none⟩ = some (.int .i64 xs[i]) := hc
      have hc2 : w.cell? ⟨b', off' + i, none⟩ = some (.int .i64 xs[i]) := hc'
      clear hc hc'
      generalize xs[i] = x at hc1 hc2
      have hxx : (x != x) = false := by simp
      have hi1 : (i : Int) < (n : Int) := by omega
      have hi0 : (0 : Int) ≤ (i : Int) := by omega
      go_wp2_with fail
      go_quiet (fail)
      go_wp2_with fail
      go_roundw
      case rel => exact ⟨i + 1, by go_num, by omega, ⟨_, rfl⟩⟩
      case measure => simp [intOf]; omega
    · go_wp2
      go_ret
      exact ⟨rfl, below_drewN' (Below.refl _ _) _⟩
end Go.Proofs.YtdfgdeccejcpfaaDoor
/- Do numbers ascend? Are the numbers of a list in another one? -/
namespace Go.Proofs.YtdfgdeccejcpfaaDoor
open Go.RowKit Go.Deep
set_option linter.unusedSimpArgs false
set_option linter.unusedVariables false
theorem asc_pair {xs : List Int} (h : xs.Pairwise (· < ·)) {i : Nat} (hi : i + 1 < xs.length) : xs[i] < xs[i + 1] := List.pairwise_iff_getElem.1 h i (i + 1) (by omega) hi (by omega)
set_option maxRecDepth 100000 in
set_option maxHeartbeats 4000000 in
theorem ascend_any (A : Option Addr) (n cp : Nat) (ys : List Int) (w : World) (hn : ys.length = n) (hR : Reads 1 intC w w.heap.size A ys) (hl : n ≤ 1048576) (hp : ys.Pairwise (· < ·)) :
    Calls Tryd.prog 13 #[.slice A n cp] w fun e w' => e = .returned (.bool true) ∧ Below w.heap.size w w' := by
  have HN := Lib.hid hn; clear hn
  have HR := Lib.hid hR; clear hR
  have HP := Lib.hid hp; clear hp
  go_enter Tryd.func13, Tryd.ntmps13
  go_wp2_with fail
  go_loopw [3] (fun t wr => ∃ i : Nat, t = .int .i64 i ∧ 1 ≤ i ∧ i ≤ n + 1 ∧ Hid (∃ m, wr = w.drewN m)) (fun t _ => n + 1 - (intOf t).toNat)
  case atStart => exact ⟨1, rfl, by omega, by omega, ⟨0, rfl⟩⟩
  case round =>
    obtain ⟨i, rfl, h1, hi, HW⟩ := hrel
    obtain ⟨m, rfl⟩ := HW.out
    clear HW
    by_cases hlt : i < n
    · obtain ⟨j, rfl⟩ : ∃ j, i = j + 1 := ⟨i - 1, by omega⟩
      have hx : j + 1 < ys.length := by rw [HN.out]; exact hlt
      have hx0 : j < ys.length := by omega
      have hasc := asc_pair HP.out hx
      obtain ⟨b, off, rfl, hb, hc⟩ := HR.out.at1 hx
      obtain ⟨b', off', hbb, _, hc'⟩ := HR.out.at1 hx0
      injection hbb with hbb; injection hbb with e1 e2
      subst e1 e2
      have hc1 : w.cell? ⟨b, off + (j + 1), none⟩ = some (.int .i64 ys[j + 1]) := hc
      have hc2 : w.cell? ⟨b, off + j, none⟩ = some (.int .i64 ys[j]) := hc'
      clear hc hc'
      generalize ys[j + 1] = y at hc1 hasc
      generalize ys[j] = x at hc2 hasc
      have hnot : ¬ y ≤ x := by omega
      have hj1 : IntKind.i64.wrap (((j + 1 : Nat) : Int) - 1) = (j : Int) := by rw [IntWalk.i64_in _ (by omega)]; omega
      have hi1 : ((j + 1 : Nat) : Int) < (n : Int) := by omega
      have hi0 : (0 : Int) ≤ ((j + 1 : Nat) : Int) := by omega
      have hj2 : (j : Int) < (n : Int) := by omega
      have hj0 : (0 : Int) ≤ (j : Int) := by omega
      go_wp2_with fail
      go_quiet (fail)
      go_wp2_with fail
      exact ⟨⟨j + 1 + 1, by go_num, by omega, by omega, ⟨_, rfl⟩⟩, by simp [intOf]; omega⟩
    · go_wp2_with fail
      go_ret
      exact ⟨rfl, below_drewN' (Below.refl _ _) _⟩
set_option maxHeartbeats 4000000 in
theorem within_any (A B : Option Addr) (n m c d : Nat) (xs ys : List Int) (w : World) (hn : xs.length = n) (hm : ys.length = m) (hR : Reads 1 intC w w.heap.size A xs) (hS : Reads 1 intC w w.heap.size B ys) (hl : n ≤ 1048576) (hl2 : m ≤ 1048576) (hsub : ∀ x ∈ xs, x ∈ ys) :
    Calls Tryd.prog 12 #[.slice A n c, .slice B m d] w fun e w' => e = .returned (.bool true) ∧ Below w.heap.size w w' := by
  have HN := Lib.hid hn; clear hn
  have HM := Lib.hid hm; clear hm
  have HR := Lib.hid hR; clear hR
  have HS := Lib.hid hS; clear hS
  have HSUB := Lib.hid hsub; clear hsub
  go_enter Tryd.func12, Tryd.ntmps12
  go_wp2_with fail
  go_loopw [5] (fun t wr => ∃ i : Nat, t = .int .i64 i ∧ i ≤ n ∧ wr = w) (fun t _ => n - (intOf t).toNat)
  case atStart => exact ⟨0, rfl, Nat.zero_le _, rfl⟩
  case round =>
    obtain ⟨i, rfl, hi, rfl⟩ := hrel
    by_cases hlt : i < n
    · have hx : i < xs.length := by rw [HN.out]; exact hlt
      have hi1 : (i : Int) < (n : Int) := by omega
      obtain ⟨b, off, hA, hb, hc⟩ := HR.out.at1 hx
      subst hA
      have hc1 : wr.cell? ⟨b, off + i, none⟩ = some (.int .i64 xs[i]) := hc
      have hmem := HSUB.out xs[i] (List.getElem_mem hx)
      clear hc
      generalize xs[i] = x at hc1 hmem
      have hdc : decide (x ∈ ys) = true := decide_eq_true hmem
      go_wp2_with fail
      with_reducible refine (hasIntZ_any B m d ys x wr HM.out HS.out hl2).mono ?_
      rintro e w2 ⟨rfl, rfl⟩
      rw [hdc]
      clear hdc hmem
      go_wp2_with fail
      exact ⟨⟨i + 1, by go_num, by omega, by first | rfl | trivial⟩, by simp [intOf]; omega⟩
    · go_wp2_with fail
      go_ret
      exact ⟨rfl, Below.refl _ _⟩
end Go.Proofs.YtdfgdeccejcpfaaDoor
/- laws.alive returns true. -/
namespace Go.Proofs.YtdfgdeccejcpfaaDoor
open Go.RowKit Go.Deep
set_option linter.unusedSimpArgs false
set_option linter.unusedVariables false

theorem hasLine_any (B : Int) (A : Option Addr) (n c : Nat) (b : Int) (w : World) :
    Calls Tryd.prog 61 #[.agg #[.int .i64 B, .slice A n c], .int .i64 b] w fun e w' => e = .returned (.bool (hasB n b)) ∧ Below w.heap.size w w' := by
  go_enter Tryd.func61, Tryd.ntmps61
  go_wp2
  all_goals (go_ret; refine ⟨congrArg (fun b => Ending.returned (Value.bool b)) ?_, (Below.refl _ _).alloc (Nat.le_refl _) _⟩)
  all_goals (simp only [hasB] at *; first | (refine (decide_eq_true ?_).symm; omega) | (refine (decide_eq_false ?_).symm; omega) | (refine decide_eq_decide.2 ?_; omega))
theorem otherEnd_one (g : Nat) (w : World) (hk : Bk w g 58 #[.int .i64 0, .int .i64 1, .int .i64 1]) :
    Calls Tryd.prog 35 #[.agg #[.int .i64 2, .slice (some ⟨g, 0, none⟩) 1 1], .int .i64 0, .int .i64 0] w fun e w' => e = .returned (.int .i64 1) ∧ Below w.heap.size w w' := by
  have hR : Reads 3 r3C w w.heap.size (some ⟨g, 0, none⟩) [⟨0, 1, 1⟩] := by
    refine .inr ⟨g, 0, rfl, hk.lt, fun i x hx j hj => ?_⟩
    obtain ⟨hi, e⟩ := getElem?_of_lt hx
    simp at hi
    subst hi
    simp at e
    subst e
    rcases j with _ | _ | _ | j
    · simpa [r3C] using hk.cell 0
    · simpa [r3C] using hk.cell 1
    · simpa [r3C] using hk.cell 2
    · omega
  have hv : netV 2 [⟨0, 1, 1⟩] = true := by rw [netV_t]; unfold NetP LineOk; simp
  have hb1 : hasB (1 : Int) 0 = true := by rw [hasB_t]; omega
  have ho : otherOf ⟨0, 1, 1⟩ 0 = 1 := by simp [otherOf]
  have hlt := hk.lt
  have hc := hk.cell
  have HK := Lib.hid hk; clear hk
  have HR := Lib.hid hR; clear hR
  have HO := Lib.hid ho; clear ho
  go_enter Tryd.func35, Tryd.ntmps35
  go_wp2_with fail; ((with_reducible refine (implNetValid_n 2 (some ⟨g, 0, none⟩) 1 1 [⟨0, 1, 1⟩] _ rfl ((HR.out.below (Below.alloc (Below.refl w.heap.size w) (Nat.le_refl _) _) (Nat.le_refl _)).more (by simp)) (by simp)).mono ?_); rintro e w1 ⟨rfl, hb_1⟩); have cB0_1 := keepB hb_1 (g := w.heap.size) (by go_size); have fB0_1 := keepF hb_1 (g := w.heap.size) (by go_size); have zB0_1 := keepZ hb_1 (g := w.heap.size) (by go_size); have cB1_1 := keepB hb_1 (g := g) (by go_size); have fB1_1 := keepF hb_1 (g := g) (by go_size); have zB1_1 := keepZ hb_1 (g := g) (by go_size); have hz_1 := hb_1.size; (try simp only [World.size_alloc, World.size_setCell, World.size_drew] at hz_1)
  go_wp2_with fail; ((with_reducible refine (hasLine_any _ _ _ _ _ _).mono ?_); rintro e w2 ⟨rfl, hb_2⟩); have cB0_2 := keepB hb_2 (g := w.heap.size) (by go_size); have fB0_2 := keepF hb_2 (g := w.heap.size) (by go_size); have zB0_2 := keepZ hb_2 (g := w.heap.size) (by go_size); have cB1_2 := keepB hb_2 (g := g) (by go_size); have fB1_2 := keepF hb_2 (g := g) (by go_size); have zB1_2 := keepZ hb_2 (g := g) (by go_size); have hz_2 := hb_2.size; (try simp only [World.size_alloc, World.size_setCell, World.size_drew] at hz_2)
  go_wp2_with fail; ((with_reducible refine (other_any _ _ _ _ _).mono ?_); rintro e w3 ⟨rfl, hb_3⟩); have hz_3 := hb_3.size; (try simp only [World.size_alloc, World.size_setCell, World.size_drew] at hz_3)
  rw [HO.out]
  go_wp2
  go_ret
  refine ⟨rfl, ?_⟩; (repeat' (first | (with_reducible exact Below.refl _ _) | (with_reducible refine Below.alloc ?_ ?_ _) | (with_reducible refine Below.setCell ?_ ?_ _) | (with_reducible refine Below.drew ?_) | (refine Below.trans ?_ (Below.mono (by with_reducible assumption) ?_)) | go_size))
theorem netText_none (w : World) :
    Calls Tryd.prog 36 #[.agg #[.int .i64 0, .slice none 0 0]] w fun e w' => e = .returned (.string ⟨#[]⟩) ∧ Below w.heap.size w w' := by
  have hv : netV 0 [] = false := by rw [netV_f]; unfold NetP; omega
  go_enter Tryd.func36, Tryd.ntmps36
  go_wp2_with fail; ((with_reducible refine (implNetValid_n 0 none 0 0 [] _ rfl reads_nil (by simp)).mono ?_); rintro e w1 ⟨rfl, hb_4⟩); have hz_4 := hb_4.size; (try simp only [World.size_alloc, World.size_setCell, World.size_drew] at hz_4)
  go_wp2_with fail
  go_ret
  refine ⟨rfl, ?_⟩; (repeat' (first | (with_reducible exact Below.refl _ _) | (with_reducible refine Below.alloc ?_ ?_ _) | (with_reducible refine Below.setCell ?_ ?_ _) | (with_reducible refine Below.drew ?_) | (refine Below.trans ?_ (Below.mono (by with_reducible assumption) ?_)) | go_size))
theorem alive_any (w : World) : Calls Tryd.prog 14 #[] w fun e w' => e = .returned (.bool true) ∧ Below w.heap.size w w' := by
  have hK := Bk.new w 58 #[.int .i64 0, .int .i64 1, .int .i64 1]
  have HK := Lib.hid hK; clear hK
  go_enter Tryd.func14, Tryd.ntmps14
  go_wp2_with fail; ((with_reducible refine (otherEnd_one w.heap.size _ HK.out).mono ?_); rintro e w1 ⟨rfl, hb_5⟩); have hz_5 := hb_5.size; (try simp only [World.size_alloc, World.size_setCell, World.size_drew] at hz_5)
  go_wp2_with fail; ((with_reducible refine (netText_none _).mono ?_); rintro e w2 ⟨rfl, hb_6⟩); have hz_6 := hb_6.size; (try simp only [World.size_alloc, World.size_setCell, World.size_drew] at hz_6)
  go_wp2
  go_ret
  refine ⟨rfl, ?_⟩; (repeat' (first | (with_reducible exact Below.refl _ _) | (with_reducible refine Below.alloc ?_ ?_ _) | (with_reducible refine Below.setCell ?_ ?_ _) | (with_reducible refine Below.drew ?_) | (refine Below.trans ?_ (Below.mono (by with_reducible assumption) ?_)) | go_size))
end Go.Proofs.YtdfgdeccejcpfaaDoor
/- The reference: who is alive. -/
namespace Go.Proofs.YtdfgdeccejcpfaaDoor
open Go.RowKit Go.Deep
set_option linter.unusedSimpArgs false
set_option linter.unusedVariables false

set_option maxRecDepth 100000 in
set_option maxHeartbeats 8000000 in
theorem specAlive_any (n : Nat) (A A1 A2 : Option Addr) (c c1 c2 : Nat) (ls : List R3) (on : List Bool) (bs : List R2) (w : World) (hf : FedP n ls on bs) (hR : Reads 3 r3C w w.heap.size A ls) (hR1 : Reads 1 boolC w w.heap.size A1 on) (hR2 : Reads 2 r2C w w.heap.size A2 bs) :
    Calls Tryd.prog 43 #[.agg #[.int .i64 (n : Int), .slice A ls.length c], .slice A1 on.length c1, .slice A2 bs.length c2] w (RetS 1 intC 3 w (idxL (fun k => pB (aliveP ls on bs k)) n)) := by
  have HRD : Hid (∀ W, Below w.heap.size w W → Reads 3 r3C W W.heap.size A ls ∧ Reads 1 boolC W W.heap.size A1 on ∧ Reads 2 r2C W W.heap.size A2 bs) := fun W h => ⟨(hR.below h (Nat.le_refl _)).more h.size, (hR1.below h (Nat.le_refl _)).more h.size, (hR2.below h (Nat.le_refl _)).more h.size⟩
  clear hR hR1 hR2
  have hlens := hf.lens
  obtain ⟨hb8, hb1, hm10, hle, hBn⟩ := hlens
  have hfv := fedV_t.2 hf
  have HF := Lib.hid hf
  have hnb : bs.length = n := by omega
  have HNB := Lib.hid hnb
  have HOKC : Hid (∀ W, Below w.heap.size w W → Calls Tryd.prog 68 #[.agg #[.int .i64 (n : Int), .slice A ls.length c], .slice A1 on.length c1, .slice A2 bs.length c2] W fun e w' => e = .returned (.bool true) ∧ Below W.heap.size W w') := fun W h => by
    have q := l5Ok_any n A A1 A2 c c1 c2 ls on bs W (HRD.out _ h).1 (HRD.out _ h).2.2 (by omega) (by omega) (by omega)
    rw [hfv] at q; exact q
  have HFC : Hid (∀ W k, Below w.heap.size w W → k < n → Calls Tryd.prog 71 #[.agg #[.int .i64 (n : Int), .slice A ls.length c], .slice A1 on.length c1, .slice A2 bs.length c2, .int .i64 ((k : Nat) : Int)] W fun e w' => e = .returned (.int .i64 (islF ls on bs k)) ∧ Below W.heap.size W w') := fun W k h hk => by
    have q := islandFeed_any n A A1 A2 c c1 c2 ls on bs k W HF.out hk (HRD.out _ h).1 (HRD.out _ h).2.1 (HRD.out _ h).2.2
    have e : islF ls on bs k = sumN (fun j => feedAt bs j * f01 (Cn ls on k j)) n := by unfold islF; rw [hnb]
    rw [e]; with_reducible exact q
  have HPO : Hid (∀ k, 0 < islF ls on bs k ↔ aliveP ls on bs k) := fun k => islF_pos HF.out
  generalize hpp : (fun k => pB (aliveP ls on bs k)) = p
  have HPP := Lib.hid hpp; clear hpp
  clear hf hfv hle hnb
  go_enter Tryd.func43, Tryd.ntmps43
  have HK0 : Hid (Bk ((w.alloc (.cells #[.int .i64 (n : Int), .slice A ls.length c] 25)).alloc (.cells #[] 3)) w.heap.size 25 #[.int .i64 (n : Int), .slice A ls.length c]) := (Bk.new _ _ _).alloc _
  have HO0 : Hid (Own 1 intC 3 ((w.alloc (.cells #[.int .i64 (n : Int), .slice A ls.length c] 25)).alloc (.cells #[] 3)) (w.heap.size + 1) (.slice (some ⟨w.heap.size + 1, 0, none⟩) 0 0) ([] : List Int)) := by
    have h := Own.lit (k := 1) (c := intC) (B := w.heap.size + 1) (w.alloc (.cells #[.int .i64 (n : Int), .slice A ls.length c] 25)) 3 #[] 0 [] (by simp) rfl (by omega) rfl
    simp only [World.size_alloc] at h
    exact h
  have HB0 : Hid (Below w.heap.size w ((w.alloc (.cells #[.int .i64 (n : Int), .slice A ls.length c] 25)).alloc (.cells #[] 3))) := by unfold Hid; (repeat' (first | (with_reducible exact Below.refl _ _) | (with_reducible refine Below.alloc ?_ ?_ _) | (with_reducible refine Below.setCell ?_ ?_ _) | (with_reducible refine Below.drew ?_) | (refine Below.trans ?_ (Below.mono (by with_reducible assumption) ?_)) | go_size))
  go_wp2_with fail
  go_loopw [7, 8] (fun t7 t8 wr => ∃ k : Nat, t8 = .int .i64 k ∧ k ≤ n ∧ Hid (Own 1 intC 3 wr (w.heap.size + 1) t7 (idxL p k)) ∧ Hid (Bk wr w.heap.size 25 #[.int .i64 (n : Int), .slice A ls.length c]) ∧ Hid (Below w.heap.size w wr)) (fun _ t8 _ => n - (intOf t8).toNat)
  case atStart => exact ⟨0, rfl, Nat.zero_le _, HO0, HK0, HB0⟩
  case round =>
    obtain ⟨k, rfl, hk, HO, HK, HB⟩ := hrel
    clear HO0 HK0 HB0
    have cK := HK.out.cell; have zK := HK.out.lt
    by_cases hlt : k < n
    · have hk1 : (k : Int) < (n : Int) := by omega
      go_wp2_with fail
      with_reducible refine (HOKC.out wr HB.out).mono ?_
      rintro e w1 ⟨rfl, hb1⟩
      have HO1 := Lib.hid (HO.out.keep hb1); have HK1 := Lib.hid (HK.out.keep hb1)
      have HB1 : Hid (Below w.heap.size w w1) := HB.out.trans (hb1.mono HB.out.size)
      clear hb1 HO HK HB cK zK
      have cK := HK1.out.cell; have zK := HK1.out.lt
      go_wp2_with fail
      with_reducible refine (HFC.out w1 k HB1.out hlt).mono ?_
      rintro e w2 ⟨rfl, hb2⟩
      have HO2 := Lib.hid (HO1.out.keep hb2); have HK2 := Lib.hid (HK1.out.keep hb2)
      have HB2 : Hid (Below w.heap.size w w2) := HB1.out.trans (hb2.mono HB1.out.size)
      clear hb2 HO1 HK1 HB1 cK zK
      have hpo := HPO.out k
      have hpk : p k = pB (aliveP ls on bs k) := by rw [← HPP.out]
      generalize islF ls on bs k = z at hpo ⊢
      have HPK := Lib.hid hpk; have HPQ := Lib.hid hpo
      clear hpk hpo
      by_cases hz : (0 : Int) < z
      · have HT : Hid (p k = true) := HPK.out.trans (pB_true (HPQ.out.1 hz))
        obtain ⟨vA, vc, hv⟩ := HO2.out.slice
        have hil := idxL_len p k
        subst hv
        have hzw : w.heap.size + 1 ≤ w2.heap.size := by have := HK2.out.lt; omega
        have HL_1 := Lib.hid (Own.lit (k := 1) (c := intC) (B := (w.heap.size + 1)) w2 3 #[.int .i64 k] 1 [(k : Int)] (by first | exact Nat.le_refl _ | omega) rfl (by omega) rfl); have HQ_1 := Lib.hid (HL_1.out.reads rfl).1; have HV_1 := Lib.hid (Own.alloc (HO2.out) (.cells #[.int .i64 k] 3)); have HK_1 := Lib.hid (Own.blk (HO2.out)); go_wp2_with (first | (at_builtin; refine wpList_app_g (k := 1) (c := intC) _ (by rfl) _ _ _ rfl 3 (.int .i64 0) 8 Tryd.underlying28 (by kernel_rfl) rfl (by decide) (by decide) intC_one _ _ _ rfl HV_1.out _ _ _ _ rfl HQ_1.out ?hm ?hlen ?hB ?_; (case hm => (first | rfl | (simp; done) | omega)); (case hlen => (simp only [List.length_cons, List.length_nil]; omega)); (case hB => ((try simp only [World.size_alloc, World.size_drew]); omega)); intro v_1 w_1 hown_1 hg_1 hat_1; have HW_1 : Hid (Below ((w.heap.size + 1)) (w2) w_1) := (Below.alloc (Below.refl _ _) (by first | exact Nat.le_refl _ | omega) _).grown hg_1 (by (try simp only [World.size_alloc]); omega) (fun q hq => (HK_1.out q hq).1); have HG_1 := Lib.hid hg_1; have HAT_1 := Lib.hid hat_1; have HO_1 := Lib.hid hown_1; obtain ⟨A_1, c_1, hv_1⟩ := hown_1.slice; simp only [List.length_append, List.length_cons, List.length_nil, Nat.zero_add] at hv_1; subst hv_1; have hz_1 := HG_1.out.size; (try simp only [World.size_alloc] at hz_1); clear hown_1 hg_1 hat_1 HL_1 HQ_1 HV_1))
        have HON : Hid (Own 1 intC 3 w_1 (w.heap.size + 1) (.slice A_1 ((idxL p k).length + 1) c_1) (idxL p (k + 1))) := by unfold Hid; rw [idxL_succ, HT.out]; exact HO_1.out
        have HKN : Hid (Bk w_1 w.heap.size 25 #[.int .i64 (n : Int), .slice A ls.length c]) := (HK2.out.alloc _).grown HG_1.out (fun e => by have := (HK_1.out _ e.symm).1; omega)
        have HBN : Hid (Below w.heap.size w w_1) := HB2.out.trans (HW_1.out.mono (by omega))
        exact ⟨⟨k + 1, by go_num, by omega, HON, HKN, HBN⟩, by simp [intOf]; omega⟩
      · have HF : Hid (idxL p k = idxL p (k + 1)) := by
          unfold Hid; rw [idxL_succ, HPK.out, pB_false (fun h => hz (HPQ.out.2 h))]; simp
        go_wp2_with fail
        exact ⟨⟨k + 1, by go_num, by omega, by have h := HO2.out; rw [HF.out] at h; exact h, HK2, HB2⟩, by simp [intOf]; omega⟩
    · obtain rfl : k = n := by omega
      have hres := HO.out.res
      rw [← HPP.out] at hres
      have HX := Lib.hid hres; clear hres
      obtain ⟨vA, vc, hv⟩ := HO.out.slice
      subst hv
      go_wp2_with fail
      go_ret
      have hx := HX.out
      rw [HPP.out] at hx
      first
        | exact ⟨_, rfl, Res.mono hx (show w.heap.size ≤ w.heap.size + 1 by omega), HB.out⟩
        | exact ⟨_, rfl, Res.mono HX.out (show w.heap.size ≤ w.heap.size + 1 by omega), HB.out⟩
end Go.Proofs.YtdfgdeccejcpfaaDoor
/- spec.ZoneLoad. -/
namespace Go.Proofs.YtdfgdeccejcpfaaDoor
open Go.RowKit Go.Deep
set_option linter.unusedSimpArgs false
set_option linter.unusedVariables false

set_option maxRecDepth 100000 in
set_option maxHeartbeats 8000000 in
theorem specZoneLoad_any (B : Int) (A A1 A2 A3 : Option Addr) (c c1 c2 c3 : Nat) (ls : List R3) (on : List Bool) (bs : List R2) (zs : List Int) (w : World) (hR : Reads 3 r3C w w.heap.size A ls) (hR1 : Reads 1 boolC w w.heap.size A1 on) (hR2 : Reads 2 r2C w w.heap.size A2 bs) (hR3 : Reads 1 intC w w.heap.size A3 zs) (hl : ls.length ≤ 1048576) (hl1 : on.length ≤ 1048576) (hl2 : bs.length ≤ 1048576) (hl3 : zs.length ≤ 1048576) :
    Calls Tryd.prog 21 #[.agg #[.int .i64 B, .slice A ls.length c], .slice A1 on.length c1, .slice A2 bs.length c2, .slice A3 zs.length c3] w fun e w' => e = .returned (.int .i64 (zlV B ls on bs zs)) ∧ Below w.heap.size w w' := by
  have HRX : ∀ W, Below w.heap.size w W → Reads 3 r3C W W.heap.size A ls ∧ Reads 1 boolC W W.heap.size A1 on ∧ Reads 2 r2C W W.heap.size A2 bs ∧ Reads 1 intC W W.heap.size A3 zs := fun W h => ⟨(hR.below h (Nat.le_refl _)).more h.size, (hR1.below h (Nat.le_refl _)).more h.size, (hR2.below h (Nat.le_refl _)).more h.size, (hR3.below h (Nat.le_refl _)).more h.size⟩
  have HRD := Lib.hid HRX; clear HRX hR hR1 hR2 hR3
  by_cases hrad : RadP B ls on bs
  · have hrv := pB_true hrad
    have HRV := Lib.hid hrv
    have HRA := Lib.hid hrad
    clear hrv hrad
    go_enter Tryd.func21, Tryd.ntmps21
    go_wp2_with fail
    refine (specRadial_any B A A1 A2 c c1 c2 ls on bs _ (HRD.out _ (by (repeat' (first | (with_reducible exact Below.refl _ _) | (with_reducible refine Below.alloc ?_ ?_ _) | (with_reducible refine Below.setCell ?_ ?_ _) | (with_reducible refine Below.drew ?_) | (refine Below.trans ?_ (Below.mono (by with_reducible assumption) ?_)) | go_size)))).1 (HRD.out _ (by (repeat' (first | (with_reducible exact Below.refl _ _) | (with_reducible refine Below.alloc ?_ ?_ _) | (with_reducible refine Below.setCell ?_ ?_ _) | (with_reducible refine Below.drew ?_) | (refine Below.trans ?_ (Below.mono (by with_reducible assumption) ?_)) | go_size)))).2.1 (HRD.out _ (by (repeat' (first | (with_reducible exact Below.refl _ _) | (with_reducible refine Below.alloc ?_ ?_ _) | (with_reducible refine Below.setCell ?_ ?_ _) | (with_reducible refine Below.drew ?_) | (refine Below.trans ?_ (Below.mono (by with_reducible assumption) ?_)) | go_size)))).2.2.1 hl hl1 hl2).mono ?_
    rintro e w1 ⟨rfl, hb1⟩
    rw [HRV.out]
    have HG1 : Hid (Bk w1 w.heap.size 25 #[.int .i64 B, .slice A ls.length c]) := (Bk.new _ _ _).keep hb1
    have HB1 : Hid (Below w.heap.size w w1) := by unfold Hid; (repeat' (first | (with_reducible exact Below.refl _ _) | (with_reducible refine Below.alloc ?_ ?_ _) | (with_reducible refine Below.setCell ?_ ?_ _) | (with_reducible refine Below.drew ?_) | (refine Below.trans ?_ (Below.mono (by with_reducible assumption) ?_)) | go_size))
    clear hb1
    have cG := HG1.out.cell; have zG := HG1.out.lt
    go_wp2_with fail
    refine (specZoneValid_any B A A3 c c3 ls zs _ (HRD.out _ HB1.out).1 (HRD.out _ HB1.out).2.2.2 hl hl3).mono ?_
    rintro e w2 ⟨rfl, hb2⟩
    have hnv : netV B ls = true := netV_t.2 HRA.out.1.1.1
    rw [hnv, Bool.true_and]
    clear hnv cG zG
    have HG2 := Lib.hid (HG1.out.keep hb2)
    have HB2 : Hid (Below w.heap.size w w2) := HB1.out.trans (hb2.mono HB1.out.size)
    clear hb2
    by_cases hz : ZoneP B zs
    · rw [zoneV_t.2 hz]
      have HZ := Lib.hid hz
      have hzs8 : zs.length ≤ 8 := by
        have h1 := hz.short (by have := HRA.out.1.1.1.1; omega)
        have h2 := HRA.out.1.1.1.2.1
        omega
      clear hz
      obtain ⟨n, hn⟩ : ∃ n : Nat, B = n := ⟨B.toNat, by have := HRA.out.1.1.1.1; omega⟩
      subst hn
      have hbn : bs.length = n := by have := HRA.out.1.2.1; omega
      have HBN := Lib.hid hbn
      have HEND := Lib.hid (zl_ends HRA.out HZ.out (fun x => if (x : Int) ∈ idxL (fun k => pB (aliveP ls on bs k)) n then loadAt bs x else 0) (fun x hx => by
        by_cases h : aliveP ls on bs x
        · have hm : (x : Int) ∈ idxL (fun k => pB (aliveP ls on bs k)) n := idxL_mem.2 ⟨x, rfl, by omega, pB_true h⟩
          show (if (x : Int) ∈ idxL (fun k => pB (aliveP ls on bs k)) n then loadAt bs x else 0) = _
          rw [if_pos hm, f01_t h, Int.mul_one]
        · have hn : ¬ (x : Int) ∈ idxL (fun k => pB (aliveP ls on bs k)) n := fun q => by
            obtain ⟨k, e, _, hk⟩ := idxL_mem.1 q
            have : k = x := by omega
            subst this
            exact h (pB_t.1 hk)
          show (if (x : Int) ∈ idxL (fun k => pB (aliveP ls on bs k)) n then loadAt bs x else 0) = _
          rw [if_neg hn, f01_f h, Int.mul_zero]))
      have hal := idxL_len (fun k => pB (aliveP ls on bs k)) n
      have hn8 : n ≤ 8 := by have := HRA.out.1.1.1.2.1; omega
      have HAC : Hid (∀ W, Below w.heap.size w W → Calls Tryd.prog 43 #[.agg #[.int .i64 (n : Int), .slice A ls.length c], .slice A1 on.length c1, .slice A2 bs.length c2] W (RetS 1 intC 3 W (idxL (fun k => pB (aliveP ls on bs k)) n))) := fun W h => specAlive_any n A A1 A2 c c1 c2 ls on bs W HRA.out.1 (HRD.out _ h).1 (HRD.out _ h).2.1 (HRD.out _ h).2.2.1
      generalize idxL (fun k => pB (aliveP ls on bs k)) n = al at HEND hal HAC
      have HBD : Hid (∀ x, 0 ≤ (fun (x : Nat) => if (x : Int) ∈ al then loadAt bs x else 0) x ∧ (fun (x : Nat) => if (x : Int) ∈ al then loadAt bs x else 0) x ≤ 999) := fun x => by
        have := HRA.out.1.load x
        simp only
        split <;> omega
      generalize hgg : (fun (x : Nat) => if (x : Int) ∈ al then loadAt bs x else 0) = g at HEND HBD
      have HGG := Lib.hid hgg; clear hgg
      have cG := HG2.out.cell; have zG := HG2.out.lt
      clear hbn
      go_wp2_with fail
      with_reducible refine (HAC.out w2 HB2.out).mono ?_
      rintro e w3 ⟨v, rfl, hres, hb3⟩
      have HB3 : Hid (Below w.heap.size w w3) := HB2.out.trans (hb3.mono HB2.out.size)
      have HAL := Lib.hid hres
      obtain ⟨aA, ac, rfl, -⟩ := hres
      clear hb3 cG zG
      go_wp2_with fail
      go_loopw [9, 11] (fun t9 t wr => ∃ (i : Nat) (T : Int), t = .int .i64 i ∧ t9 = .int .i64 T ∧ i ≤ zs.length ∧ Hid (T = zrun g zs i) ∧ w3 = wr) (fun _ t _ => zs.length - (intOf t).toNat)
      case atStart => exact ⟨0, 0, rfl, rfl, Nat.zero_le _, rfl, rfl⟩
      case round =>
        obtain ⟨i, T, rfl, rfl, hi, HTT, rfl⟩ := hrel
        by_cases hlt : i < zs.length
        · obtain ⟨zb, zo, rfl, hzb, hzc⟩ := (HRD.out _ HB3.out).2.2.2.at1 hlt
          unfold intC at hzc
          have hzz := HZ.out i hlt
          rw [getD_lt hlt] at hzz
          obtain ⟨x, hx⟩ : ∃ x : Nat, zs[i] = (x : Int) := ⟨zs[i].toNat, by omega⟩
          have hstep : zrun g zs (i + 1) = zrun g zs i + g x := by show zrun g zs i + g (zs.getD i 0).toNat = _; rw [getD_lt hlt, hx, Int.toNat_natCast]
          rw [hx] at hzc hzz
          clear hx
          have hxb : x < bs.length := by rw [HBN.out]; omega
          obtain ⟨lb, lo, rfl, hlb, hc0, hc1⟩ := (HRD.out _ HB3.out).2.2.1.at2 hxb
          have hla : loadAt bs x = bs[x].b := by unfold loadAt; rw [getD_lt hxb]
          have hlb2 := HRA.out.1.load x
          generalize bs[x].a = za at hc0
          generalize hzl : bs[x].b = zl at hc1 hla
          have hgx := congrFun HGG.out x
          try simp only at hgx
          rw [hla] at hgx hlb2
          have hTb := zrun_bd (zs := zs) HBD.out i
          rw [← HTT.out] at hTb hstep
          have HS := Lib.hid hstep; have HGX := Lib.hid hgx
          have hx1 : (x : Int) < (bs.length : Int) := by omega
          have hi1 : (i : Int) < (zs.length : Int) := by omega
          clear hla hstep hgx hzl hzz
          by_cases hm : (x : Int) ∈ al
          · have HN : Hid (T + zl = zrun g zs (i + 1)) := by have := HGX.out; rw [if_pos hm] at this; unfold Hid; rw [HS.out, this]
            have hw : IntKind.i64.wrap (T + zl) = T + zl := IntWalk.i64_in _ (by omega)
            have hdm := decide_eq_true hm
            have HDM := Lib.hid hdm
            clear hdm hm
            go_wp2_with fail
            refine (l1Has_any aA al.length ac al x _ rfl HAL.out.reads.1 (by omega)).mono ?_
            rintro e w4 ⟨rfl, rfl⟩
            rw [HDM.out]
            go_wp2_with fail
            exact ⟨⟨i + 1, T + zl, by go_num, rfl, by omega, HN, by first | rfl | trivial⟩, by simp [intOf]; omega⟩
          · have HN : Hid (T = zrun g zs (i + 1)) := by have := HGX.out; rw [if_neg hm] at this; unfold Hid; rw [HS.out, ← this]; omega
            have hdm := decide_eq_false hm
            have HDM := Lib.hid hdm
            clear hdm hm
            go_wp2_with fail
            refine (l1Has_any aA al.length ac al x _ rfl HAL.out.reads.1 (by omega)).mono ?_
            rintro e w4 ⟨rfl, rfl⟩
            rw [HDM.out]
            go_wp2_with fail
            exact ⟨⟨i + 1, T, by go_num, rfl, by omega, HN, by first | rfl | trivial⟩, by simp [intOf]; omega⟩
        · obtain rfl : i = zs.length := by omega
          rw [HEND.out] at HTT
          go_wp2_with fail
          go_ret
          exact ⟨by rw [← HTT.out]; rfl, HB3.out⟩
    · rw [zoneV_f.2 hz]
      have HNZ : Hid (zlV B ls on bs zs = -1) := zlV_f (fun h => hz h.2)
      clear hz
      go_wp2_with fail
      go_ret
      exact ⟨by rw [HNZ.out]; rfl, HB2.out⟩
  · have hrv := pB_false hrad
    have HRV := Lib.hid hrv
    have HNZ : Hid (zlV B ls on bs zs = -1) := zlV_f (fun h => hrad h.1)
    clear hrv hrad
    go_enter Tryd.func21, Tryd.ntmps21
    go_wp2_with fail
    refine (specRadial_any B A A1 A2 c c1 c2 ls on bs _ (HRD.out _ (by (repeat' (first | (with_reducible exact Below.refl _ _) | (with_reducible refine Below.alloc ?_ ?_ _) | (with_reducible refine Below.setCell ?_ ?_ _) | (with_reducible refine Below.drew ?_) | (refine Below.trans ?_ (Below.mono (by with_reducible assumption) ?_)) | go_size)))).1 (HRD.out _ (by (repeat' (first | (with_reducible exact Below.refl _ _) | (with_reducible refine Below.alloc ?_ ?_ _) | (with_reducible refine Below.setCell ?_ ?_ _) | (with_reducible refine Below.drew ?_) | (refine Below.trans ?_ (Below.mono (by with_reducible assumption) ?_)) | go_size)))).2.1 (HRD.out _ (by (repeat' (first | (with_reducible exact Below.refl _ _) | (with_reducible refine Below.alloc ?_ ?_ _) | (with_reducible refine Below.setCell ?_ ?_ _) | (with_reducible refine Below.drew ?_) | (refine Below.trans ?_ (Below.mono (by with_reducible assumption) ?_)) | go_size)))).2.2.1 hl hl1 hl2).mono ?_
    rintro e w1 ⟨rfl, hb1⟩
    rw [HRV.out]
    have HB1 : Hid (Below w.heap.size w w1) := by unfold Hid; (repeat' (first | (with_reducible exact Below.refl _ _) | (with_reducible refine Below.alloc ?_ ?_ _) | (with_reducible refine Below.setCell ?_ ?_ _) | (with_reducible refine Below.drew ?_) | (refine Below.trans ?_ (Below.mono (by with_reducible assumption) ?_)) | go_size))
    clear hb1
    go_wp2_with fail
    go_ret
    exact ⟨by rw [HNZ.out]; rfl, HB1.out⟩
end Go.Proofs.YtdfgdeccejcpfaaDoor
/- slices.Clone. -/
namespace Go.Proofs.YtdfgdeccejcpfaaDoor
open Go.RowKit
set_option linter.unusedSimpArgs false
set_option linter.unusedVariables false
set_option maxRecDepth 100000 in
set_option maxHeartbeats 1000000 in
theorem cloneBus_any (A : Option Addr) (c : Nat) (xs : List R2) (w : World) (hR : Reads 2 r2C w w.heap.size A xs) (hl : xs.length ≤ 1048576) :
    Calls Tryd.prog 53 #[.slice A xs.length c] w (RetS 2 r2C 68 w xs) := by
  have HR := Lib.hid hR
  generalize hn : xs.length = n at hl ⊢
  have HN := Lib.hid hn; clear hn
  rcases A with _ | ad
  · have hx : xs = [] := by
      rcases hR with h | ⟨b, off, hA, _⟩
      · exact h
      · cases hA
    clear hR
    subst hx
    have he : ∀ W : World, (binOp .eql 27 (.slice none n c) (.slice none 0 0)).run Tryd.prog W = .ok (.bool true) W := fun _ => rfl
    go_enter Tryd.func53, Tryd.ntmps53
    go_wp2_with fail
    go_ret
    exact ⟨_, rfl, Res.empty rfl rfl, Below.refl _ _⟩
  · clear hR
    have HA := Lib.hid (Own.lit (k := 2) (c := r2C) (B := w.heap.size) w 68 #[] 0 [] (Nat.le_refl _) rfl (by omega) rfl)
    have HR3 : Hid (Reads 2 r2C (w.alloc (.cells #[] 68)) (w.alloc (.cells #[] 68)).heap.size (some ad) xs) := by
      unfold Hid
      exact (HR.out.below (Below.alloc (Below.refl _ _) (Nat.le_refl _) _) (Nat.le_refl _)).more (by simp)
    have he : ∀ W : World, (binOp .eql 27 (.slice (some ad) n c) (.slice none 0 0)).run Tryd.prog W = .ok (.bool false) W := fun _ => rfl
    go_enter Tryd.func53, Tryd.ntmps53
    go_wp2_with (first
      | (at_builtin
         refine wpList_app (k := 2) (c := r2C) _ rfl _ _ _ rfl 68 (.agg (Array.replicate 2 (.int .i64 0))) 16 Tryd.underlying27 (by kernel_rfl) rfl (by decide) (by decide) r2C_one _ _ _ rfl HA.out _ _ _ _ rfl HR3.out ?hm ?hlen ?hB ?_
         case hm => exact HN.out.symm
         case hlen => have := HN.out; simp only [List.length_nil]; omega
         case hB => rw [World.size_alloc]; omega
         intro v4 w4 hown4 hg4 hat4))
    go_ret
    refine ⟨_, rfl, hown4.res, ?_⟩
    refine (Below.alloc (Below.refl _ _) (Nat.le_refl _) _).grown hg4 (by rw [World.size_alloc]; omega) (fun k hk => ?_)
    injection hk with hk
    subst hk
    exact Nat.le_refl _
end Go.Proofs.YtdfgdeccejcpfaaDoor
/- Leaks: plain laws. No program is in sight here. -/
namespace Go.Proofs.YtdfgdeccejcpfaaDoor
set_option linter.unusedSimpArgs false
set_option linter.unusedVariables false

def busAt (bs : List R2) (i : Nat) : R2 := bs.getD i ⟨0, 0⟩
def leakN (bs : List R2) (lk : List Int) (i : Nat) : R2 := ⟨(busAt bs i).a, IntKind.i64.wrap ((busAt bs i).b + lk.getD i 0)⟩
/-- The first i buses with their leaks. -/
def leakTo (bs : List R2) (lk : List Int) : Nat → List R2
  | 0 => bs
  | i + 1 => (leakTo bs lk i).set i (leakN bs lk i)
theorem leakTo_len (bs : List R2) (lk : List Int) (i : Nat) : (leakTo bs lk i).length = bs.length := by
  induction i with
  | zero => rfl
  | succ i ih => show ((leakTo bs lk i).set i _).length = _; rw [List.length_set, ih]
theorem leakTo_at (bs : List R2) (lk : List Int) (i j : Nat) (hj : j < bs.length) : busAt (leakTo bs lk i) j = if j < i then leakN bs lk j else busAt bs j := by
  induction i with
  | zero => rw [if_neg (by omega)]; rfl
  | succ i ih =>
    unfold busAt at *
    show ((leakTo bs lk i).set i (leakN bs lk i)).getD j ⟨0, 0⟩ = _
    rw [getD_set, leakTo_len]
    by_cases e : j = i
    · subst e; rw [if_pos ⟨rfl, hj⟩, if_pos (by omega)]
    · rw [if_neg (fun h => e h.1), ih]
      by_cases h : j < i
      · rw [if_pos h, if_pos (by omega)]
      · rw [if_neg h, if_neg (by omega)]
def leakL (bs : List R2) (lk : List Int) : List R2 := leakTo bs lk bs.length
theorem leakL_len (bs : List R2) (lk : List Int) : (leakL bs lk).length = bs.length := leakTo_len _ _ _
theorem leakL_at {bs : List R2} {lk : List Int} {j : Nat} (hj : j < bs.length) : busAt (leakL bs lk) j = leakN bs lk j := by unfold leakL; rw [leakTo_at _ _ _ _ hj, if_pos hj]
def lkOk (lk : List Int) : Prop := ∀ x ∈ lk, 0 ≤ x ∧ x ≤ 999
instance (lk : List Int) : Decidable (lkOk lk) := by unfold lkOk; infer_instance
/-- What ZoneDiff returns. -/
noncomputable def zdV (B : Int) (ls : List R3) (on : List Bool) (bs : List R2) (lk zs : List Int) : Int :=
  if lk.length = bs.length ∧ lkOk lk then (if zlV B ls on bs zs < 0 ∨ zlV B ls on (leakL bs lk) zs < 0 then -1 else zlV B ls on (leakL bs lk) zs - zlV B ls on bs zs) else -1
section
variable {B : Int} {ls : List R3} {on : List Bool} {bs : List R2} {lk zs : List Int}
theorem zlV_bd (B : Int) (ls : List R3) (on : List Bool) (bs : List R2) (zs : List Int) : -1 ≤ zlV B ls on bs zs ∧ zlV B ls on bs zs ≤ 7992 := by
  rcases Classical.em (RadP B ls on bs ∧ ZoneP B zs) with h | h
  · rw [zlV_t h]; have := zsum_nonneg h.1.1 (fun i => (i : Int) ∈ zs); omega
  · rw [zlV_f h]; omega
theorem zlV_neg {B : Int} {ls : List R3} {on : List Bool} {bs : List R2} {zs : List Int} : zlV B ls on bs zs < 0 ↔ ¬ (RadP B ls on bs ∧ ZoneP B zs) := by
  constructor
  · intro h hp; rw [zlV_t hp] at h; have := zsum_nonneg hp.1.1 (fun i => (i : Int) ∈ zs); omega
  · intro h; rw [zlV_f h]; omega
theorem feed_leak (i : Nat) : isFeed (leakL bs lk) i ↔ isFeed bs i := by
  unfold isFeed
  rw [leakL_len]
  constructor
  · rintro ⟨h1, h2⟩
    have : feedAt (leakL bs lk) i = feedAt bs i := by show (busAt (leakL bs lk) i).a = (busAt bs i).a; rw [leakL_at h1]; rfl
    exact ⟨h1, by rw [← this]; exact h2⟩
  · rintro ⟨h1, h2⟩
    have : feedAt (leakL bs lk) i = feedAt bs i := by show (busAt (leakL bs lk) i).a = (busAt bs i).a; rw [leakL_at h1]; rfl
    exact ⟨h1, by rw [this]; exact h2⟩
theorem alive_leak (i : Nat) : aliveP ls on (leakL bs lk) i ↔ aliveP ls on bs i := by
  unfold aliveP
  constructor
  · rintro ⟨f, h1, h2⟩; exact ⟨f, (feed_leak f).1 h1, h2⟩
  · rintro ⟨f, h1, h2⟩; exact ⟨f, (feed_leak f).2 h1, h2⟩
/-- No load is too great with its leak. -/
def fitP (bs : List R2) (lk : List Int) : Prop := ∀ i, i < bs.length → (leakN bs lk i).b ≤ 999
instance (bs : List R2) (lk : List Int) : Decidable (fitP bs lk) := by unfold fitP; infer_instance
theorem busAt_mem {bs : List R2} {i : Nat} (hi : i < bs.length) : busAt bs i ∈ bs := by unfold busAt; rw [getD_lt hi]; exact List.getElem_mem hi
theorem rad_leak (h : RadP B ls on bs) (hl : lk.length = bs.length) (hk : lkOk lk) (hf : fitP bs lk) : RadP B ls on (leakL bs lk) := by
  refine ⟨⟨h.1.1, by rw [leakL_len]; exact h.1.2.1, fun x hx => ?_⟩, h.2.1, fun i j fi fj hc => h.2.2 i j ((feed_leak i).1 fi) ((feed_leak j).1 fj) hc⟩
  obtain ⟨i, hi, rfl⟩ := List.mem_iff_getElem.1 hx
  have hi' : i < bs.length := by rw [leakL_len] at hi; exact hi
  have e : (leakL bs lk)[i] = leakN bs lk i := by rw [← leakL_at hi']; unfold busAt; rw [getD_lt hi]
  rw [e]
  have hb := h.1.2.2 _ (busAt_mem hi')
  have hf' := hf i hi'
  have hlk := hk (lk.getD i 0) (by rw [getD_lt (by omega)]; exact List.getElem_mem _)
  unfold BusOk at hb ⊢
  unfold leakN at hf' ⊢
  simp only at hf' ⊢
  have hw : IntKind.i64.wrap ((busAt bs i).b + lk.getD i 0) = (busAt bs i).b + lk.getD i 0 := IntWalk.i64_in _ (by omega)
  rw [hw] at hf' ⊢
  omega
theorem rad_unfit (hf : ¬ fitP bs lk) : ¬ RadP B ls on (leakL bs lk) := fun h => hf (fun i hi => by
  have hi' : i < (leakL bs lk).length := by rw [leakL_len]; exact hi
  have := h.1.2.2 _ (busAt_mem hi')
  rw [leakL_at hi] at this
  exact this.2.2.2)
/-- The reference's way to the same number. -/
theorem zdV_spec (hl : lk.length = bs.length) (hk : lkOk lk) (hf : fitP bs lk) (hr : RadP B ls on bs) (hz : ZoneP B zs) : zdV B ls on bs lk zs = zlV B ls on (leakL bs lk) zs - zlV B ls on bs zs ∧ 0 ≤ zlV B ls on (leakL bs lk) zs ∧ 0 ≤ zlV B ls on bs zs := by
  have h1 : ¬ zlV B ls on bs zs < 0 := fun h => (zlV_neg.1 h) ⟨hr, hz⟩
  have h2 : ¬ zlV B ls on (leakL bs lk) zs < 0 := fun h => (zlV_neg.1 h) ⟨rad_leak hr hl hk hf, hz⟩
  refine ⟨?_, by omega, by omega⟩
  unfold zdV; rw [if_pos ⟨hl, hk⟩, if_neg (fun h => h.elim h1 h2)]
theorem zdV_none (h : ¬ (lk.length = bs.length ∧ lkOk lk ∧ fitP bs lk ∧ RadP B ls on bs ∧ ZoneP B zs)) : zdV B ls on bs lk zs = -1 := by
  unfold zdV
  split
  · rename_i hq
    rw [if_pos]
    by_cases hf : fitP bs lk
    · by_cases hr : RadP B ls on bs ∧ ZoneP B zs
      · exact absurd ⟨hq.1, hq.2, hf, hr.1, hr.2⟩ h
      · exact .inl (zlV_neg.2 hr)
    · exact .inr (zlV_neg.2 (fun q => rad_unfit hf q.1))
  · rfl
theorem zdV_bd (B : Int) (ls : List R3) (on : List Bool) (bs : List R2) (lk zs : List Int) : -8000 ≤ zdV B ls on bs lk zs ∧ zdV B ls on bs lk zs ≤ 8000 := by
  have h1 := zlV_bd B ls on bs zs
  have h2 := zlV_bd B ls on (leakL bs lk) zs
  unfold zdV
  split
  · split <;> omega
  · omega
/-- The difference is the sum of the leaks of the zone's buses that are alive. -/
theorem zd_leaks (hl : lk.length = bs.length) (hk : lkOk lk) (hf : fitP bs lk) (hr : RadP B ls on bs) (hz : ZoneP B zs) : zdV B ls on bs lk zs = sumN (fun i => lk.getD i 0 * f01 ((i : Int) ∈ zs ∧ aliveP ls on bs i)) bs.length := by
  rw [(zdV_spec hl hk hf hr hz).1, zlV_t ⟨hr, hz⟩, zlV_t ⟨rad_leak hr hl hk hf, hz⟩]
  unfold zsum
  rw [leakL_len, ← sumN_sub]
  refine sumN_congr fun i hi => ?_
  have e : loadAt (leakL bs lk) i = loadAt bs i + lk.getD i 0 := by
    show (busAt (leakL bs lk) i).b = (busAt bs i).b + lk.getD i 0
    rw [leakL_at hi]
    unfold leakN
    have hb := hr.1.2.2 _ (busAt_mem hi)
    have hlk := hk (lk.getD i 0) (by rw [getD_lt (by omega)]; exact List.getElem_mem _)
    unfold BusOk at hb
    exact IntWalk.i64_in _ (by omega)
  rw [e, f01_congr (P := (i : Int) ∈ zs ∧ aliveP ls on (leakL bs lk) i) (Q := (i : Int) ∈ zs ∧ aliveP ls on bs i) ⟨fun t => ⟨t.1, (alive_leak i).1 t.2⟩, fun t => ⟨t.1, (alive_leak i).2 t.2⟩⟩, Int.add_mul]
  show loadAt bs i * f01 ((i : Int) ∈ zs ∧ aliveP ls on bs i) + lk.getD i 0 * f01 ((i : Int) ∈ zs ∧ aliveP ls on bs i) - loadAt bs i * f01 ((i : Int) ∈ zs ∧ aliveP ls on bs i) = _
  omega
end
end Go.Proofs.YtdfgdeccejcpfaaDoor
/- The law on differences: plain words (the text of LzD, for texts that do not import it). -/
namespace Go.Proofs.YtdfgdeccejcpfaaDoor
open Go.RowKit Go.Deep
set_option linter.unusedSimpArgs false
set_option linter.unusedVariables false

/-- The leaks of a list's buses that are alive. -/
def lsumZ (G : Nat → Int) (p : Nat → Bool) : List Int → Int
  | [] => 0
  | y :: l => (if p y.toNat = true then G y.toNat else 0) + lsumZ G p l
theorem zone_sum (G : Nat → Int) (p : Nat → Bool) (n : Nat) : ∀ l : List Int, l.Nodup → (∀ y ∈ l, 0 ≤ y ∧ y < (n : Int)) → sumN (fun i => G i * f01 ((i : Int) ∈ l ∧ p i = true)) n = lsumZ G p l
  | [], _, _ => sumN_none (fun i _ => by rw [f01_f (fun h => by simp at h)]; omega)
  | y :: l, hn, hb => by
    obtain ⟨hy, hl⟩ := List.nodup_cons.1 hn
    have hyb := hb y (by simp)
    obtain ⟨q, rfl⟩ : ∃ q : Nat, y = (q : Int) := ⟨y.toNat, by omega⟩
    have hqn : q < n := by omega
    have ih := zone_sum G p n l hl (fun z hz => hb z (by simp [hz]))
    have hone := sumN_one (n := n) (k := q) (if p q = true then G q else 0) hqn
    simp only [lsumZ, Int.toNat_natCast]
    rw [← ih, ← hone, ← sumN_add]
    refine sumN_congr fun i hi => ?_
    show G i * f01 ((i : Int) ∈ (q : Int) :: l ∧ p i = true) = (if i = q then (if p q = true then G q else 0) else 0) + G i * f01 ((i : Int) ∈ l ∧ p i = true)
    by_cases e : i = q
    · subst e
      rw [if_pos rfl, f01_f (P := (i : Int) ∈ l ∧ p i = true) (fun h => hy h.1)]
      by_cases hp : p i = true
      · rw [if_pos hp, f01_t ⟨by simp, hp⟩]; omega
      · rw [if_neg hp, f01_f (fun h => hp h.2)]; omega
    · rw [if_neg e, f01_congr (P := (i : Int) ∈ (q : Int) :: l ∧ p i = true) (Q := (i : Int) ∈ l ∧ p i = true) ⟨fun h => ⟨by
        rcases List.mem_cons.1 h.1 with h1 | h1
        · omega
        · exact h1, h.2⟩, fun h => ⟨by simp [h.1], h.2⟩⟩]
      omega
theorem zone_nodup {B : Int} {zs : List Int} (h : ZoneP B zs) : zs.Nodup := by
  rw [List.nodup_iff_pairwise_ne, List.pairwise_iff_getElem]
  intro i j hi hj hij e
  have := h.asc hij hj
  rw [getD_lt hi, getD_lt hj, e] at this
  omega
theorem zone_mem {B : Int} {zs : List Int} (h : ZoneP B zs) : ∀ y ∈ zs, 0 ≤ y ∧ y < B := by
  intro y hy
  obtain ⟨i, hi, rfl⟩ := List.mem_iff_getElem.1 hy
  have := h i hi
  rw [getD_lt hi] at this
  exact ⟨this.1, this.2.1⟩
/-- What the law on differences says. -/
theorem zd_law (nb : Nat) (ls : List R3) (on : List Bool) (bs : List R2) (lk zs : List Int) : zdV nb ls on bs lk zs = -1 ∨ (0 ≤ zdV nb ls on bs lk zs ∧ lk.length = nb ∧ lkOk lk ∧ FedP nb ls on bs ∧ ¬ cycP ls on ∧ ZoneP nb zs ∧ lsumZ (fun i => lk.getD i 0) (fun k => pB (aliveP ls on bs k)) zs = zdV nb ls on bs lk zs) := by
  rcases Classical.em (lk.length = bs.length ∧ lkOk lk ∧ fitP bs lk ∧ RadP nb ls on bs ∧ ZoneP nb zs) with ⟨h1, h2, h3, h4, h5⟩ | h
  · right
    have e := zd_leaks h1 h2 h3 h4 h5
    have hlen : bs.length = nb := by have := h4.1.2.1; omega
    have hs := zone_sum (fun i => lk.getD i 0) (fun k => pB (aliveP ls on bs k)) nb zs (zone_nodup h5) (zone_mem h5)
    have e2 : sumN (fun i => lk.getD i 0 * f01 ((i : Int) ∈ zs ∧ aliveP ls on bs i)) bs.length = sumN (fun i => lk.getD i 0 * f01 ((i : Int) ∈ zs ∧ pB (aliveP ls on bs i) = true)) nb := by
      rw [hlen]
      refine sumN_congr fun i hi => ?_
      rw [f01_congr (P := (i : Int) ∈ zs ∧ aliveP ls on bs i) (Q := (i : Int) ∈ zs ∧ pB (aliveP ls on bs i) = true) ⟨fun h => ⟨h.1, pB_t.2 h.2⟩, fun h => ⟨h.1, pB_t.1 h.2⟩⟩]
    refine ⟨?_, by omega, h2, h4.1, h4.2.1, h5, ?_⟩
    · rw [e]
      refine sumN_nonneg fun i hi => ?_
      have hk := h2 (lk.getD i 0) (by rw [getD_lt (by omega)]; exact List.getElem_mem _)
      rcases f01_cases ((i : Int) ∈ zs ∧ aliveP ls on bs i) with ⟨_, q⟩ | ⟨_, q⟩ <;> rw [q] <;> omega
    · rw [e, e2, ← hs]
  · exact .inl (zdV_none h)
end Go.Proofs.YtdfgdeccejcpfaaDoor
/- spec.l18With: the buses with their leaks. -/
namespace Go.Proofs.YtdfgdeccejcpfaaDoor
open Go.RowKit Go.Deep
set_option linter.unusedSimpArgs false
set_option linter.unusedVariables false

theorem belowDrewN {B : Nat} {a w : World} (h : Below B a w) (n : Nat) : Below B a (w.drewN n) := ⟨h.os, h.tape, h.output, h.size, h.block⟩
def wOk (bs : List R2) (lk : List Int) (i : Nat) : Prop := lk.length = bs.length ∧ (0 ≤ lk.getD i 0 ∧ lk.getD i 0 ≤ 999) ∧ (leakN bs lk i).b ≤ 999
instance (bs : List R2) (lk : List Int) (i : Nat) : Decidable (wOk bs lk i) := by unfold wOk; infer_instance
def wAll (bs : List R2) (lk : List Int) : Prop := ∀ i, i < bs.length → wOk bs lk i
instance (bs : List R2) (lk : List Int) : Decidable (wAll bs lk) := by unfold wAll; infer_instance
def wtL (bs : List R2) (lk : List Int) (n : Nat) : List R2 := (List.range n).map (leakN bs lk)
theorem wtL_succ {bs : List R2} {lk : List Int} {i : Nat} : wtL bs lk (i + 1) = wtL bs lk i ++ [leakN bs lk i] := by unfold wtL; rw [List.range_succ, List.map_append]; rfl
theorem wtL_len {bs : List R2} {lk : List Int} {i : Nat} : (wtL bs lk i).length = i := by simp [wtL]
theorem wtL_leak {bs : List R2} {lk : List Int} : wtL bs lk bs.length = leakL bs lk := List.ext_getElem (by simp [wtL, leakL_len]) (fun i h1 h2 => by
  have hi : i < bs.length := by rw [leakL_len] at h2; exact h2
  have e : (leakL bs lk)[i] = leakN bs lk i := by rw [← leakL_at hi]; unfold busAt; rw [getD_lt h2]
  rw [e]; simp [wtL])
set_option maxRecDepth 100000 in
set_option maxHeartbeats 8000000 in
theorem l18With_any (A A1 : Option Addr) (c c1 : Nat) (bs : List R2) (lk : List Int) (w : World) (hR : Reads 2 r2C w w.heap.size A bs) (hR1 : Reads 1 intC w w.heap.size A1 lk) (hl : bs.length ≤ 1048576) (hl1 : lk.length ≤ 1048576) :
    Calls Tryd.prog 55 #[.slice A bs.length c, .slice A1 lk.length c1] w fun e w' => ∃ (vA : Option Addr) (vn vc : Nat), e = .returned (.tuple #[.slice vA vn vc, .bool (decide (wAll bs lk))]) ∧ (wAll bs lk → Res 2 r2C 68 w' w.heap.size (.slice vA vn vc) (leakL bs lk)) ∧ Below w.heap.size w w' := by
  have HRD : Hid (∀ W, Below w.heap.size w W → Reads 2 r2C W W.heap.size A bs ∧ Reads 1 intC W W.heap.size A1 lk) := fun W h => ⟨(hR.below h (Nat.le_refl _)).more h.size, (hR1.below h (Nat.le_refl _)).more h.size⟩
  clear hR hR1
  have HO0 : Hid (Own 2 r2C 68 (w.alloc (.cells #[] 68)) w.heap.size (.slice (some ⟨w.heap.size, 0, none⟩) 0 0) (wtL bs lk 0)) := Own.lit (k := 2) (c := r2C) (B := w.heap.size) w 68 #[] 0 [] (by simp) rfl (by omega) rfl
  have HB0 : Hid (Below w.heap.size w (w.alloc (.cells #[] 68))) := by unfold Hid; (repeat' (first | (with_reducible exact Below.refl _ _) | (with_reducible refine Below.alloc ?_ ?_ _) | (with_reducible refine Below.setCell ?_ ?_ _) | (with_reducible refine Below.drew ?_) | (refine Below.trans ?_ (Below.mono (by with_reducible assumption) ?_)) | go_size))
  generalize hv0 : wtL bs lk 0 = v0 at HO0
  have HV0 := Lib.hid hv0; clear hv0
  go_enter Tryd.func55, Tryd.ntmps55
  go_wp2_with fail
  go_loopw [6, 7] (fun t6 t7 wr => ∃ i : Nat, t7 = .int .i64 i ∧ i ≤ bs.length ∧ Hid (∀ j, j < i → wOk bs lk j) ∧ Hid (Own 2 r2C 68 wr w.heap.size t6 (wtL bs lk i)) ∧ Hid (Below w.heap.size w wr)) (fun _ t7 _ => bs.length - (intOf t7).toNat)
  case atStart => exact ⟨0, rfl, Nat.zero_le _, fun j hj => by omega, by rw [HV0.out]; exact HO0, HB0⟩
  case round =>
    obtain ⟨i, rfl, hi, HG, HO, HB⟩ := hrel
    clear HO0 HB0 HV0
    by_cases hlt : i < bs.length
    · have hi1 : (i : Int) < (bs.length : Int) := by omega
      obtain ⟨vA, vc, hv⟩ := HO.out.slice
      subst hv
      have hil : (wtL bs lk i).length ≤ 1048576 := by rw [wtL_len]; omega
      have HBAD : Hid (¬ wOk bs lk i → decide (wAll bs lk) = false) := fun h => decide_eq_false (fun q => h (q i hlt))
      by_cases hlen : lk.length = bs.length
      · have hne : ((lk.length : Int) != (bs.length : Int)) = false := by simp [hlen]
        have hik : i < lk.length := by omega
        have HLEN := Lib.hid hlen; clear hlen
        have hik1 : (i : Int) < (lk.length : Int) := by omega
        obtain ⟨kb, ko, rfl, hkb, hkc⟩ := (HRD.out _ (Below.refl _ _)).2.at1 hik
        unfold intC at hkc
        have hkd : lk.getD i 0 = lk[i] := getD_lt hik 0
        generalize lk[i] = x at hkc hkd
        have HKD := Lib.hid hkd; clear hkd
        obtain ⟨bb, bo, rfl, hbb, hb0, hb1⟩ := (HRD.out _ (Below.refl _ _)).1.at2 hlt
        have hbd : busAt bs i = bs[i] := getD_lt hlt _
        generalize bs[i] = y at hb0 hb1 hbd
        obtain ⟨ya, yb⟩ := y
        simp only at hb0 hb1
        have HCL : Hid (∀ W, Below w.heap.size w W → W.cell? ⟨kb, ko + i, none⟩ = some (.int .i64 x) ∧ W.cell? ⟨bb, bo + i * 2, none⟩ = some (.int .i64 ya) ∧ W.cell? ⟨bb, bo + i * 2 + 1, none⟩ = some (.int .i64 yb)) := fun W h => ⟨(keepB h hkb _).trans hkc, (keepB h hbb _).trans hb0, (keepB h hbb _).trans hb1⟩
        clear hkc hb0 hb1
        obtain ⟨hkc, hb0, hb1⟩ := HCL.out _ HB.out
        have HLK : Hid (leakN bs lk i = ⟨ya, IntKind.i64.wrap (yb + x)⟩) := by unfold Hid leakN; rw [hbd, HKD.out]
        clear hbd
        obtain ⟨s, hs⟩ : ∃ s, IntKind.i64.wrap (yb + x) = s := ⟨_, rfl⟩
        rw [hs] at HLK
        by_cases hx : 0 ≤ x ∧ x ≤ 999
        · have hin := inB_t.2 hx
          have HX := Lib.hid hx; clear hx
          by_cases h9 : s ≤ 999
          · have HOK : Hid (wOk bs lk i) := ⟨HLEN.out, by rw [HKD.out]; exact HX.out, by rw [HLK.out]; exact h9⟩
            go_wp2_with fail
            go_quiet ((go_at_call 39; exact quietL (l1In_any _ _ _ _)))
            have HOq : Hid (Own 2 r2C 68 (wr.drewN nq) w.heap.size (.slice vA (wtL bs lk i).length vc) (wtL bs lk i)) := HO.out
            have HBq : Hid (Below w.heap.size w (wr.drewN nq)) := belowDrewN HB.out nq
            generalize wr.drewN nq = wq at HOq HBq ⊢
            clear hkc hb0 hb1 HO HB
            obtain ⟨hkc, hb0, hb1⟩ := HCL.out _ HBq.out
            have hzq := HBq.out.size
            have HOq2 : Hid (Own 2 r2C 68 wq.drew w.heap.size (.slice vA (wtL bs lk i).length vc) (wtL bs lk i)) := HOq.out.drew
            have HBq2 : Hid (Below w.heap.size w wq.drew) := HBq.out.drew
            have zkq : kb < wq.heap.size := by omega
            have zbq : bb < wq.heap.size := by omega
            have hzq2 : w.heap.size ≤ wq.drew.heap.size := hzq
            go_upto_region 7 with fail
            have HL_1 := Lib.hid (Own.lit (k := 2) (c := r2C) (B := w.heap.size) wq.drew 68 #[.int .i64 ya, .int .i64 s] 1 [(⟨ya, s⟩ : R2)] (by first | exact Nat.le_refl _ | omega) rfl (by omega) rfl); have HQ_1 := Lib.hid (HL_1.out.reads rfl).1; have HV_1 := Lib.hid (Own.alloc (HOq2.out) (.cells #[.int .i64 ya, .int .i64 s] 68)); have HK_1 := Lib.hid (Own.blk (HOq2.out))
            go_region_held_law (fun w' => w'.cell? ⟨kb, ko + i, none⟩ = some (.int .i64 x) ∧ w'.cell? ⟨bb, bo + i * 2, none⟩ = some (.int .i64 ya) ∧ w'.cell? ⟨bb, bo + i * 2 + 1, none⟩ = some (.int .i64 yb)) (simp [go_sem, World.cell?_alloc_past, *])
              (first | (refine step_app_g (k := 2) (c := r2C) _ (by rfl) _ _ _ rfl 68 (.agg (Array.replicate 2 (.int .i64 0))) 16 Tryd.underlying27 (by kernel_rfl) rfl (by decide) (by decide) r2C_one _ _ _ rfl HV_1.out _ _ _ _ rfl HQ_1.out ?hm ?hlen ?hB ?_; (case hm => (first | rfl | (simp; done) | omega)); (case hlen => (simp only [List.length_cons, List.length_nil]; omega)); (case hB => ((try simp only [World.size_alloc, World.size_drew]); omega)); intro v_1 w_1 hown_1 hg_1 hat_1; have HW_1 : Hid (Below (w.heap.size) (wq.drew) w_1) := (Below.alloc (Below.refl _ _) (by first | exact Nat.le_refl _ | omega) _).grown hg_1 (by (try simp only [World.size_alloc]); omega) (fun q hq => (HK_1.out q hq).1); have HG_1 := Lib.hid hg_1; have HAT_1 := Lib.hid hat_1; have HO_1 := Lib.hid hown_1; obtain ⟨A_1, c_1, hv_1⟩ := hown_1.slice; simp only [List.length_append, List.length_cons, List.length_nil, Nat.zero_add] at hv_1; subst hv_1; have hz_1 := HG_1.out.size; (try simp only [World.size_alloc] at hz_1); clear hown_1 hg_1 hat_1 HL_1 HQ_1 HV_1; have HBN : Hid (Below w.heap.size w w_1) := HBq2.out.trans HW_1.out ; obtain ⟨k0, k1, k2⟩ := HCL.out w_1 HBN.out))
            have HG2 : Hid (∀ j, j < i + 1 → wOk bs lk j) := fun j hj => by
              by_cases e : j = i
              · subst e; exact HOK.out
              · exact HG.out j (by omega)
            have HON : Hid (Own 2 r2C 68 w_1 w.heap.size (.slice A_1 ((wtL bs lk i).length + 1) c_1) (wtL bs lk (i + 1))) := by unfold Hid; rw [wtL_succ, HLK.out]; exact HO_1.out
            go_wp2_with fail
            exact ⟨⟨i + 1, by go_num, by omega, HG2, HON, HBN⟩, by simp [intOf]; omega⟩
          · have HNO : Hid (decide (wAll bs lk) = false) := HBAD.out (fun q => h9 (by have := q.2.2; rw [HLK.out] at this; exact this))
            go_wp2_with fail
            go_quiet ((go_at_call 39; exact quietL (l1In_any _ _ _ _)))
            go_wp2_with fail
            refine bodyPost_ret (v := .tuple #[.slice (some ⟨wr.heap.size, 0, none⟩) 0 0, .bool false]) (by simp [results, Tryd.results55, go_sem]; try rfl) rfl ?_
            exact ⟨_, _, _, by rw [HNO.out], fun h => absurd h (of_decide_eq_false HNO.out), (belowDrewN HB.out nq).alloc HB.out.size _⟩
        · have hin := inB_f.2 hx
          have HNO : Hid (decide (wAll bs lk) = false) := HBAD.out (fun q => hx (by have := q.2.1; rw [HKD.out] at this; exact this))
          clear hx
          go_wp2_with fail
          go_quiet ((go_at_call 39; exact quietL (l1In_any _ _ _ _)))
          go_wp2_with fail
          refine bodyPost_ret (v := .tuple #[.slice (some ⟨wr.heap.size, 0, none⟩) 0 0, .bool false]) (by simp [results, Tryd.results55, go_sem]; try rfl) rfl ?_
          exact ⟨_, _, _, by rw [HNO.out], fun h => absurd h (of_decide_eq_false HNO.out), (belowDrewN HB.out nq).alloc HB.out.size _⟩
      · have hne : ((lk.length : Int) != (bs.length : Int)) = true := by simp; omega
        have HNO : Hid (decide (wAll bs lk) = false) := HBAD.out (fun q => hlen q.1)
        clear hlen
        go_wp2_with fail
        go_quiet ((go_at_call 39; exact quietL (l1In_any _ _ _ _)))
        go_wp2_with fail
        refine bodyPost_ret (v := .tuple #[.slice (some ⟨wr.heap.size, 0, none⟩) 0 0, .bool false]) (by simp [results, Tryd.results55, go_sem]; try rfl) rfl ?_
        exact ⟨_, _, _, by rw [HNO.out], fun h => absurd h (of_decide_eq_false HNO.out), (belowDrewN HB.out nq).alloc HB.out.size _⟩
    · obtain rfl : i = bs.length := by omega
      have HYES : Hid (decide (wAll bs lk) = true) := decide_eq_true (fun j hj => HG.out j hj)
      have hres := HO.out.res
      rw [wtL_leak] at hres
      have HRES := Lib.hid hres; clear hres
      obtain ⟨vA, vc, hv⟩ := HO.out.slice
      rw [wtL_len] at hv
      subst hv
      go_wp2_with fail
      refine bodyPost_ret (v := .tuple #[.slice vA bs.length vc, .bool true]) (by simp [results, Tryd.results55, go_sem]; try rfl) rfl ?_
      exact ⟨_, _, _, by rw [HYES.out], fun _ => HRES.out, HB.out⟩
end Go.Proofs.YtdfgdeccejcpfaaDoor
/- spec.ZoneDiff. -/
namespace Go.Proofs.YtdfgdeccejcpfaaDoor
open Go.RowKit Go.Deep
set_option linter.unusedSimpArgs false
set_option linter.unusedVariables false

theorem wAll_out {bs : List R2} {lk : List Int} (h : wAll bs lk) (h0 : 0 < bs.length) : lk.length = bs.length ∧ lkOk lk ∧ fitP bs lk := by
  have hl := (h 0 h0).1
  refine ⟨hl, fun x hx => ?_, fun i hi => (h i hi).2.2⟩
  obtain ⟨j, hj, rfl⟩ := List.mem_iff_getElem.1 hx
  have q := (h j (by omega)).2.1
  rw [getD_lt hj] at q; exact q
theorem wAll_in {bs : List R2} {lk : List Int} (h1 : lk.length = bs.length) (h2 : lkOk lk) (h3 : fitP bs lk) : wAll bs lk := fun i hi => by
  refine ⟨h1, ?_, h3 i hi⟩
  rw [getD_lt (by omega : i < lk.length)]; exact h2 _ (List.getElem_mem _)
set_option maxRecDepth 100000 in
set_option maxHeartbeats 8000000 in
theorem specZoneDiff_any (B : Int) (A A1 A2 A3 A4 : Option Addr) (c c1 c2 c3 c4 : Nat) (ls : List R3) (on : List Bool) (bs : List R2) (lk zs : List Int) (w : World) (hR : Reads 3 r3C w w.heap.size A ls) (hR1 : Reads 1 boolC w w.heap.size A1 on) (hR2 : Reads 2 r2C w w.heap.size A2 bs) (hR3 : Reads 1 intC w w.heap.size A3 lk) (hR4 : Reads 1 intC w w.heap.size A4 zs) (hl : ls.length ≤ 1048576) (hl1 : on.length ≤ 1048576) (hl2 : bs.length ≤ 1048576) (hl3 : lk.length ≤ 1048576) (hl4 : zs.length ≤ 1048576) :
    Calls Tryd.prog 28 #[.agg #[.int .i64 B, .slice A ls.length c], .slice A1 on.length c1, .slice A2 bs.length c2, .slice A3 lk.length c3, .slice A4 zs.length c4] w fun e w' => e = .returned (.int .i64 (zdV B ls on bs lk zs)) ∧ Below w.heap.size w w' := by
  have HRD : Hid (∀ W, Below w.heap.size w W → Reads 3 r3C W W.heap.size A ls ∧ Reads 1 boolC W W.heap.size A1 on ∧ Reads 2 r2C W W.heap.size A2 bs ∧ Reads 1 intC W W.heap.size A3 lk ∧ Reads 1 intC W W.heap.size A4 zs) := fun W h => ⟨(hR.below h (Nat.le_refl _)).more h.size, (hR1.below h (Nat.le_refl _)).more h.size, (hR2.below h (Nat.le_refl _)).more h.size, (hR3.below h (Nat.le_refl _)).more h.size, (hR4.below h (Nat.le_refl _)).more h.size⟩
  clear hR hR1 hR2 hR3 hR4
  have HK0 : Hid (Bk (w.alloc (.cells #[.int .i64 B, .slice A ls.length c] 25)) w.heap.size 25 #[.int .i64 B, .slice A ls.length c]) := Bk.new _ _ _
  have HB0 : Hid (Below w.heap.size w (w.alloc (.cells #[.int .i64 B, .slice A ls.length c] 25))) := by unfold Hid; (repeat' (first | (with_reducible exact Below.refl _ _) | (with_reducible refine Below.alloc ?_ ?_ _) | (with_reducible refine Below.setCell ?_ ?_ _) | (with_reducible refine Below.drew ?_) | (refine Below.trans ?_ (Below.mono (by with_reducible assumption) ?_)) | go_size))
  go_enter Tryd.func28, Tryd.ntmps28
  go_wp2_with fail
  with_reducible refine (l18With_any A2 A3 c2 c3 bs lk _ (HRD.out _ HB0.out).2.2.1 (HRD.out _ HB0.out).2.2.2.1 hl2 hl3).mono ?_
  rintro e w1 ⟨vA, vn, vc, rfl, hres, hb1⟩
  have HK1 := Lib.hid (HK0.out.keep hb1)
  have HB1 : Hid (Below w.heap.size w w1) := HB0.out.trans (hb1.mono HB0.out.size)
  have HRES : Hid (wAll bs lk → Res 2 r2C 68 w1 (w.heap.size + 1) (.slice vA vn vc) (leakL bs lk)) := fun h => (hres h).mono (show w.heap.size + 1 ≤ _ by rw [World.size_alloc]; omega)
  clear hres hb1 HK0 HB0
  have cK := HK1.out.cell; have zK := HK1.out.lt
  by_cases hA : wAll bs lk
  · have HA := Lib.hid hA
    rw [decide_eq_true hA]
    clear hA
    have hrs := HRES.out HA.out
    obtain ⟨-, hvn⟩ := hrs.reads
    rw [leakL_len] at hvn
    subst hvn
    have HRS := Lib.hid hrs; clear hrs HRES
    go_wp2_with fail
    with_reducible refine (specRadial_any B A A1 A2 c c1 c2 ls on bs _ (HRD.out _ HB1.out).1 (HRD.out _ HB1.out).2.1 (HRD.out _ HB1.out).2.2.1 hl hl1 hl2).mono ?_
    rintro e w2 ⟨rfl, hb2⟩
    have HK2 := Lib.hid (HK1.out.keep hb2)
    have HRS2 := Lib.hid (HRS.out.below hb2)
    have HB2 : Hid (Below w.heap.size w w2) := HB1.out.trans (hb2.mono HB1.out.size)
    clear hb2 cK zK HK1 HB1 HRS
    have cK := HK2.out.cell; have zK := HK2.out.lt
    have hnone : ¬ (RadP B ls on bs ∧ ZoneP B zs) → zdV B ls on bs lk zs = -1 := fun h => zdV_none (fun q => h q.2.2.2)
    have HNONE := Lib.hid hnone; clear hnone
    by_cases hr : RadP B ls on bs
    · have hrv := pB_true hr
      have HRA := Lib.hid hr; clear hr
      rw [hrv]
      clear hrv
      go_wp2_with fail
      with_reducible refine (specZoneValid_any B A A4 c c4 ls zs _ (HRD.out _ HB2.out).1 (HRD.out _ HB2.out).2.2.2.2 hl hl4).mono ?_
      rintro e w3 ⟨rfl, hb3⟩
      have hnv : netV B ls = true := netV_t.2 HRA.out.1.1.1
      rw [hnv, Bool.true_and]
      clear hnv cK zK
      have HK3 := Lib.hid (HK2.out.keep hb3)
      have HRS3 := Lib.hid (HRS2.out.below hb3)
      have HB3 : Hid (Below w.heap.size w w3) := HB2.out.trans (hb3.mono HB2.out.size)
      clear hb3 HK2 HB2 HRS2
      by_cases hz : ZoneP B zs
      · rw [zoneV_t.2 hz]
        have HZ := Lib.hid hz
        have hbn0 : 0 < bs.length := by have q1 := HRA.out.1.2.1; have q2 := HRA.out.1.1.1.1; omega
        obtain ⟨q1, q2, q3⟩ := wAll_out HA.out hbn0
        have hv := zdV_spec q1 q2 q3 HRA.out HZ.out
        clear q1 q2 q3 hbn0 hz
        have HZLC : Hid (∀ W, Below w.heap.size w W → Calls Tryd.prog 21 #[.agg #[.int .i64 B, .slice A ls.length c], .slice A1 on.length c1, .slice A2 bs.length c2, .slice A4 zs.length c4] W fun e w' => e = .returned (.int .i64 (zlV B ls on bs zs)) ∧ Below W.heap.size W w') := fun W h =>
          specZoneLoad_any B A A1 A2 A4 c c1 c2 c4 ls on bs zs W (HRD.out _ h).1 (HRD.out _ h).2.1 (HRD.out _ h).2.2.1 (HRD.out _ h).2.2.2.2 hl hl1 hl2 hl4
        have HZFC : Hid (∀ W, Below w.heap.size w W → Reads 2 r2C W W.heap.size vA (leakL bs lk) → Calls Tryd.prog 25 #[.agg #[.int .i64 B, .slice A ls.length c], .slice A1 on.length c1, .slice vA bs.length vc, .slice A4 zs.length c4] W fun e w' => e = .returned (.int .i64 (zlV B ls on (leakL bs lk) zs)) ∧ Below W.heap.size W w') := fun W h hx => by
          have q := specZoneFlow_any B A A1 vA A4 c c1 vc c4 ls on (leakL bs lk) zs W (HRD.out _ h).1 (HRD.out _ h).2.1 hx (HRD.out _ h).2.2.2.2 hl hl1 (by rw [leakL_len]; exact hl2) hl4
          rw [leakL_len] at q; with_reducible exact q
        have hb1 := zlV_bd B ls on bs zs
        have hb2 := zlV_bd B ls on (leakL bs lk) zs
        generalize hz1 : zlV B ls on bs zs = z1 at HZLC hv hb1
        generalize hz2 : zlV B ls on (leakL bs lk) zs = z2 at HZFC hv hb2
        clear hz1 hz2
        have hw : IntKind.i64.wrap (z2 - z1) = z2 - z1 := IntWalk.i64_in _ (by omega)
        have HV := Lib.hid hv.1; clear hv
        have hs0 : w3.cell? ⟨w.heap.size, 0, none⟩ = some (.int .i64 B) := HK3.out.cell 0
        have hs1 : w3.cell? ⟨w.heap.size, 1, none⟩ = some (.slice A ls.length c) := HK3.out.cell 1
        have zK := HK3.out.lt
        have HBD : Hid (Below w.heap.size w w3.drew) := HB3.out.drew
        have HRD3 : Hid (Reads 2 r2C w3.drew w3.drew.heap.size vA (leakL bs lk)) := HRS3.out.reads.1
        go_upto_region 4 with fail
        go_region_held3 (fun w' => w'.cell? ⟨w.heap.size, 0, none⟩ = some (.int .i64 B) ∧ w'.cell? ⟨w.heap.size, 1, none⟩ = some (.slice A ls.length c)) (simp [go_sem, World.cell?_alloc_past, *])
          (first | (go_at_call 25; (with_reducible refine (HZFC.out _ (by exact HBD.out) (by exact HRD3.out)).mono ?_); rintro e w5 ⟨rfl, hb5⟩; have q0 := keepB hb5 (g := w.heap.size) (by exact zK); have z5 := keepZ hb5 (g := w.heap.size) (by exact zK); have HBW5 : Hid (Below w.heap.size w w5) := HBD.out.trans (hb5.mono HBD.out.size); clear hb5)
                 | (go_at_call 21; (with_reducible refine (HZLC.out _ (by exact HBW5.out)).mono ?_); rintro e w6 ⟨rfl, hb6⟩; have q1 := keepB hb6 (g := w.heap.size) (by exact z5); have HB6 : Hid (Below w.heap.size w w6) := HBW5.out.trans (hb6.mono HBW5.out.size); clear hb6))
        clear q0 q1 hs0 hs1
        go_wp2_with fail
        go_ret
        exact ⟨by rw [HV.out]; rfl, HB6.out⟩
      · rw [zoneV_f.2 hz]
        have HNO := Lib.hid (HNONE.out (fun q => hz q.2))
        clear hz
        go_wp2_with fail
        go_ret
        exact ⟨by rw [HNO.out]; rfl, HB3.out⟩
    · have hrv := pB_f.2 hr
      have HNO := Lib.hid (HNONE.out (fun q => hr q.1))
      rw [hrv]
      clear hr hrv
      go_wp2_with fail
      go_ret
      exact ⟨by rw [HNO.out]; rfl, HB2.out⟩
  · rw [decide_eq_false hA]
    have HNO : Hid (zdV B ls on bs lk zs = -1) := zdV_none (fun h => hA (wAll_in h.1 h.2.1 h.2.2.1))
    clear hA HRES
    go_wp2_with fail
    go_ret
    exact ⟨by rw [HNO.out]; rfl, HB1.out⟩
end Go.Proofs.YtdfgdeccejcpfaaDoor
/- impl.ZoneDiff. -/
namespace Go.Proofs.YtdfgdeccejcpfaaDoor
open Go.RowKit Go.Deep
set_option linter.unusedSimpArgs false
set_option linter.unusedVariables false

theorem Res.setB2 {w : World} {T : TypeId} {B g n c : Nat} {xs : List R2} (h : Res 2 r2C T w B (.slice (some ⟨g, 0, none⟩) n c) xs) {k : Nat} (hk : k < xs.length) (v : Int) :
    w.cell? ⟨g, k * 2 + 1, none⟩ = some (.int .i64 xs[k].b) ∧ (∀ i, w.frozen? ⟨g, i, none⟩ = false) ∧ B ≤ g ∧ g < w.heap.size ∧ Res 2 r2C T (w.setCell ⟨g, k * 2 + 1, none⟩ (.int .i64 v)) B (.slice (some ⟨g, 0, none⟩) n c) (xs.set k ⟨xs[k].a, v⟩) := by
  obtain ⟨A, c', e, h⟩ := h
  injection e with e1 e2 e3
  rcases h with h | ⟨g', m, f, hA, hB, hr, hm, hf⟩
  · rw [h] at hk; simp at hk
  · rw [hA] at e1; injection e1 with e1; injection e1 with e1; subst e1
    have hc := hr.cell (i := k * 2 + 1) (by omega)
    rw [hf k xs[k] (List.getElem?_eq_getElem hk) 1 (by omega)] at hc
    refine ⟨hc, hr.frozen, hB, hr.lt, Res.of_row hB (hr.set (k * 2 + 1) (.int .i64 v)) (by simp [e2]) (by simpa using hm) (fun i y hy j hj => ?_)⟩
    rw [List.getElem?_set] at hy
    by_cases e : k = i
    · subst e
      rw [if_pos rfl, if_pos hk] at hy
      injection hy with hy
      subst hy
      have hj2 : j = 0 ∨ j = 1 := by omega
      rcases hj2 with rfl | rfl
      · rw [if_neg (by omega), hf k xs[k] (List.getElem?_eq_getElem hk) 0 (by omega)]; rfl
      · rw [if_pos rfl]; rfl
    · rw [if_neg e] at hy
      rw [if_neg (by omega)]
      exact hf i y hy j hj
set_option maxRecDepth 100000 in
set_option maxHeartbeats 8000000 in
theorem implZoneDiff_any (B : Int) (A A1 A2 A3 A4 : Option Addr) (c c1 c2 c3 c4 : Nat) (ls : List R3) (on : List Bool) (bs : List R2) (lk zs : List Int) (w : World) (hR : Reads 3 r3C w w.heap.size A ls) (hR1 : Reads 1 boolC w w.heap.size A1 on) (hR2 : Reads 2 r2C w w.heap.size A2 bs) (hR3 : Reads 1 intC w w.heap.size A3 lk) (hR4 : Reads 1 intC w w.heap.size A4 zs) (hl : ls.length ≤ 1048576) (hl1 : on.length ≤ 1048576) (hl2 : bs.length ≤ 1048576) (hl3 : lk.length ≤ 1048576) (hl4 : zs.length ≤ 1048576) :
    Calls Tryd.prog 27 #[.agg #[.int .i64 B, .slice A ls.length c], .slice A1 on.length c1, .slice A2 bs.length c2, .slice A3 lk.length c3, .slice A4 zs.length c4] w fun e w' => e = .returned (.int .i64 (zdV B ls on bs lk zs)) ∧ Below w.heap.size w w' := by
  have HRD : Hid (∀ W, Below w.heap.size w W → Reads 3 r3C W W.heap.size A ls ∧ Reads 1 boolC W W.heap.size A1 on ∧ Reads 2 r2C W W.heap.size A2 bs ∧ Reads 1 intC W W.heap.size A3 lk ∧ Reads 1 intC W W.heap.size A4 zs) := fun W h => ⟨(hR.below h (Nat.le_refl _)).more h.size, (hR1.below h (Nat.le_refl _)).more h.size, (hR2.below h (Nat.le_refl _)).more h.size, (hR3.below h (Nat.le_refl _)).more h.size, (hR4.below h (Nat.le_refl _)).more h.size⟩
  clear hR hR1 hR2 hR3 hR4
  have HZLC : Hid (∀ W, Below w.heap.size w W → Calls Tryd.prog 20 #[.agg #[.int .i64 B, .slice A ls.length c], .slice A1 on.length c1, .slice A2 bs.length c2, .slice A4 zs.length c4] W fun e w' => e = .returned (.int .i64 (zlV B ls on bs zs)) ∧ Below W.heap.size W w') := fun W h =>
    implZoneLoad_any B A A1 A2 A4 c c1 c2 c4 ls on bs zs W (HRD.out _ h).1 (HRD.out _ h).2.1 (HRD.out _ h).2.2.1 (HRD.out _ h).2.2.2.2 hl hl1 hl2 hl4
  have HZFC : Hid (∀ W X xc, Below w.heap.size w W → Reads 2 r2C W W.heap.size X (leakL bs lk) → Calls Tryd.prog 24 #[.agg #[.int .i64 B, .slice A ls.length c], .slice A1 on.length c1, .slice X bs.length xc, .slice A4 zs.length c4] W fun e w' => e = .returned (.int .i64 (zlV B ls on (leakL bs lk) zs)) ∧ Below W.heap.size W w') := fun W X xc h hx => by
    have q := implZoneFlow_any B A A1 X A4 c c1 xc c4 ls on (leakL bs lk) zs W (HRD.out _ h).1 (HRD.out _ h).2.1 hx (HRD.out _ h).2.2.2.2 hl hl1 (by rw [leakL_len]; exact hl2) hl4
    rw [leakL_len] at q; with_reducible exact q
  by_cases hlen : lk.length = bs.length
  · have hne : ((lk.length : Int) != (bs.length : Int)) = false := by simp [hlen]
    have HLEN := Lib.hid hlen
    have HV : Hid (zdV B ls on bs lk zs = if lkOk lk then (if zlV B ls on bs zs < 0 ∨ zlV B ls on (leakL bs lk) zs < 0 then -1 else zlV B ls on (leakL bs lk) zs - zlV B ls on bs zs) else -1) := by
      unfold Hid zdV
      by_cases h : lkOk lk
      · rw [if_pos ⟨hlen, h⟩, if_pos h]
      · rw [if_neg (fun q => h q.2), if_neg h]
    rw [hlen] at hne hl3 ⊢
    clear hlen
    obtain ⟨n, hn⟩ : ∃ n, bs.length = n := ⟨_, rfl⟩
    have HN := Lib.hid hn
    rw [hn] at hne hl2 hl3 HZLC HZFC ⊢
    clear hn
    generalize hz1 : zlV B ls on bs zs = z1 at HZLC HV
    generalize hz2 : zlV B ls on (leakL bs lk) zs = z2 at HZFC HV
    have hb1 := zlV_bd B ls on bs zs
    have hb2 := zlV_bd B ls on (leakL bs lk) zs
    rw [hz1] at hb1
    rw [hz2] at hb2
    clear hz1 hz2
    go_enter Tryd.func27, Tryd.ntmps27
    have HK0 : Hid (Bk (w.alloc (.cells #[.int .i64 B, .slice A ls.length c] 25)) w.heap.size 25 #[.int .i64 B, .slice A ls.length c]) := Bk.new _ _ _
    have HB0 : Hid (Below w.heap.size w (w.alloc (.cells #[.int .i64 B, .slice A ls.length c] 25))) := by unfold Hid; (repeat' (first | (with_reducible exact Below.refl _ _) | (with_reducible refine Below.alloc ?_ ?_ _) | (with_reducible refine Below.setCell ?_ ?_ _) | (with_reducible refine Below.drew ?_) | (refine Below.trans ?_ (Below.mono (by with_reducible assumption) ?_)) | go_size))
    have HCL : Hid (∀ W, Below w.heap.size w W → Calls Tryd.prog 53 #[.slice A2 n c2] W (RetS 2 r2C 68 W bs)) := fun W h => by
      have q := cloneBus_any A2 c2 bs W (HRD.out _ h).2.2.1 (by rw [HN.out]; exact hl2)
      rw [HN.out] at q; with_reducible exact q
    go_wp2_with fail
    with_reducible refine (HCL.out _ HB0.out).mono ?_
    rintro e w1 ⟨v, rfl, hcr, hcb⟩
    have HK1 := Lib.hid (HK0.out.keep hcb)
    have HB1 : Hid (Below w.heap.size w w1) := HB0.out.trans (hcb.mono HB0.out.size)
    have hcr2 := hcr.mono (show w.heap.size + 1 ≤ _ by rw [World.size_alloc]; omega)
    have HCR : Hid (Res 2 r2C 68 w1 (w.heap.size + 1) v (leakTo bs lk 0)) := hcr2
    obtain ⟨vA, vc, rfl, -⟩ := hcr
    rw [HN.out] at HCR
    rw [HN.out]
    clear hcb hcr2 HK0 HB0 HCL
    go_wp2_with fail
    go_loopw [25] (fun t wr => ∃ i : Nat, t = .int .i64 i ∧ i ≤ n ∧ Hid (∀ j, j < i → 0 ≤ lk.getD j 0 ∧ lk.getD j 0 ≤ 999) ∧ Hid (Res 2 r2C 68 wr (w.heap.size + 1) (.slice vA n vc) (leakTo bs lk i)) ∧ Hid (Bk wr w.heap.size 25 #[.int .i64 B, .slice A ls.length c]) ∧ Hid (Below w.heap.size w wr)) (fun t _ => n - (intOf t).toNat)
    case atStart => exact ⟨0, rfl, Nat.zero_le _, fun j hj => by omega, HCR, HK1, HB1⟩
    case round =>
      obtain ⟨i, rfl, hi, HG, HR5, HK, HB⟩ := hrel
      clear HCR HK1 HB1
      by_cases hlt : i < n
      · have hlk : i < lk.length := by rw [HLEN.out, HN.out]; exact hlt
        obtain ⟨kb, ko, rfl, hkb, hkc⟩ := (HRD.out _ HB.out).2.2.2.1.at1 hlk
        unfold intC at hkc
        have hkd : lk.getD i 0 = lk[i] := getD_lt hlk 0
        generalize hxx : lk[i] = x at hkc hkd
        have HXX := Lib.hid hxx
        have HKD := Lib.hid hkd
        clear hxx hkd
        have hi1 : (i : Int) < (n : Int) := by omega
        by_cases hx : 0 ≤ x ∧ x ≤ 999
        · have hin := inB_t.2 hx
          obtain ⟨hx1, hx2⟩ := hx
          have hXl : (leakTo bs lk i).length = n := by rw [leakTo_len]; exact HN.out
          obtain ⟨g, hvA, hgB, hgz⟩ : ∃ g, vA = some ⟨g, 0, none⟩ ∧ w.heap.size + 1 ≤ g ∧ g < wr.heap.size := by
            obtain ⟨A', c', e, h⟩ := HR5.out
            injection e with e1 e2 e3
            rcases h with h | ⟨g, m, f, hA, hB, hr, hm, hf⟩
            · rw [h] at hXl; simp at hXl; omega
            · exact ⟨g, e1.trans hA, hB, hr.lt⟩
          subst hvA
          have hki : i < (leakTo bs lk i).length := by rw [hXl]; exact hlt
          obtain ⟨b, hb⟩ : ∃ b, (leakTo bs lk i)[i].b = b := ⟨_, rfl⟩
          obtain ⟨hcc, hff, -, -, hset⟩ := HR5.out.setB2 hki (wrap64 (b + x))
          rw [hb] at hcc
          have hnx : (leakTo bs lk i).set i ⟨(leakTo bs lk i)[i].a, wrap64 (b + x)⟩ = leakTo bs lk (i + 1) := by
            have e1 : (leakTo bs lk i)[i] = busAt bs i := by
              have q := leakTo_at bs lk i i (by rw [HN.out]; exact hlt)
              rw [if_neg (by omega)] at q; rw [← q]; unfold busAt; rw [getD_lt hki]
            show _ = (leakTo bs lk i).set i (leakN bs lk i)
            unfold leakN
            rw [HKD.out, ← e1, hb, IntWalk.i64_left]
          rw [hnx] at hset
          have HS := Lib.hid hset
          have HG2 : Hid (∀ j, j < i + 1 → 0 ≤ lk.getD j 0 ∧ lk.getD j 0 ≤ 999) := fun j hj => by
            by_cases e : j = i
            · subst e; rw [HKD.out]; exact ⟨hx1, hx2⟩
            · exact HG.out j (by omega)
          have HKS : Hid (Bk (wr.setCell ⟨g, i * 2 + 1, none⟩ (.int .i64 (wrap64 (b + x)))) w.heap.size 25 #[.int .i64 B, .slice A ls.length c]) := HK.out.far (p := ⟨g, i * 2 + 1, none⟩) (by show w.heap.size ≠ g; omega) _
          have HBS : Hid (Below w.heap.size w (wr.setCell ⟨g, i * 2 + 1, none⟩ (.int .i64 (wrap64 (b + x))))) := by have q := HB.out; unfold Hid; (repeat' (first | (with_reducible exact Below.refl _ _) | (with_reducible refine Below.alloc ?_ ?_ _) | (with_reducible refine Below.setCell ?_ ?_ _) | (with_reducible refine Below.drew ?_) | (refine Below.trans ?_ (Below.mono (by with_reducible assumption) ?_)) | go_size))
          clear hset hnx hb hXl
          go_wp2_with (go_at_call 54; (with_reducible refine (powerValid_any _ _).mono ?_); rintro e w' ⟨rfl, rfl⟩)
          exact ⟨⟨i + 1, by go_num, by omega, HG2, HS, HKS, HBS⟩, by simp [intOf]; omega⟩
        · have hin := inB_f.2 hx
          have HNO : Hid (zdV B ls on bs lk zs = -1) := by
            unfold Hid; rw [HV.out, if_neg (fun h => hx (by rw [← HXX.out]; exact h _ (List.getElem_mem hlk)))]
          clear hx
          go_wp2_with (go_at_call 54; (with_reducible refine (powerValid_any _ _).mono ?_); rintro e w' ⟨rfl, rfl⟩)
          go_ret
          exact ⟨by rw [HNO.out]; rfl, HB.out⟩
      · obtain rfl : i = n := by omega
        have HLK : Hid (lkOk lk) := fun y hy => by
          obtain ⟨j, hj, rfl⟩ := List.mem_iff_getElem.1 hy
          have q := HG.out j (by rw [← HN.out, ← HLEN.out]; exact hj)
          rw [getD_lt hj] at q; exact q
        have HX : Hid (leakTo bs lk i = leakL bs lk) := by unfold Hid leakL; rw [HN.out]
        rw [HX.out] at HR5
        have HRX : Hid (∀ W, Below wr.heap.size wr W → Reads 2 r2C W W.heap.size vA (leakL bs lk)) := fun W h => by
          have q := (HR5.out.below h).reads.1
          exact q
        rw [if_pos HLK.out] at HV
        have hs0 : wr.cell? ⟨w.heap.size, 0, none⟩ = some (.int .i64 B) := HK.out.cell 0
        have hs1 : wr.cell? ⟨w.heap.size, 1, none⟩ = some (.slice A ls.length c) := HK.out.cell 1
        have zK := HK.out.lt
        have HBD : Hid (Below w.heap.size w wr.drew) := HB.out.drew
        go_upto_region 11 with fail
        go_region_held3 (fun w' => w'.cell? ⟨w.heap.size, 0, none⟩ = some (.int .i64 B) ∧ w'.cell? ⟨w.heap.size, 1, none⟩ = some (.slice A ls.length c)) (simp [go_sem, World.cell?_alloc_past, *])
          (first | (go_at_call 20; (with_reducible refine (HZLC.out _ (by exact HBD.out)).mono ?_); rintro e w5 ⟨rfl, hb5⟩; have q0 := keepB hb5 (g := w.heap.size) (by exact zK); have z5 := keepZ hb5 (g := w.heap.size) (by exact zK); have HBE := Lib.hid hb5; have HBW5 : Hid (Below w.heap.size w w5) := HBD.out.trans (hb5.mono HBD.out.size); have HRX5 := Lib.hid (HRX.out w5 (undrew hb5)); clear hb5)
                 | (go_at_call 24; (with_reducible refine (HZFC.out _ vA vc (by exact HBW5.out) (by exact HRX5.out)).mono ?_); rintro e w6 ⟨rfl, hb6⟩; have q1 := keepB hb6 (g := w.heap.size) (by exact z5); have HB6 : Hid (Below w.heap.size w w6) := HBW5.out.trans (hb6.mono HBW5.out.size); clear hb6))
        clear q0 q1 hs0 hs1
        by_cases h1 : z1 < 0
        · have HNO : Hid (zdV B ls on bs lk zs = -1) := by unfold Hid; rw [HV.out, if_pos (.inl h1)]
          go_wp2_with fail
          all_goals try (exfalso; omega; done)
          go_ret
          exact ⟨by rw [HNO.out]; rfl, HB6.out⟩
        · by_cases h2 : z2 < 0
          · have HNO : Hid (zdV B ls on bs lk zs = -1) := by unfold Hid; rw [HV.out, if_pos (.inr h2)]
            go_wp2_with fail
            all_goals try (exfalso; omega; done)
            go_ret
            exact ⟨by rw [HNO.out]; rfl, HB6.out⟩
          · have HNO : Hid (zdV B ls on bs lk zs = z2 - z1) := by unfold Hid; rw [HV.out, if_neg (fun h => by omega)]
            have hw : IntKind.i64.wrap (z2 - z1) = z2 - z1 := IntWalk.i64_in _ (by omega)
            go_wp2_with fail
            all_goals try (exfalso; omega; done)
            go_ret
            exact ⟨by rw [HNO.out]; rfl, HB6.out⟩
  · have hne : ((lk.length : Int) != (bs.length : Int)) = true := by simp; omega
    have HNO : Hid (zdV B ls on bs lk zs = -1) := by unfold Hid zdV; rw [if_neg (fun h => hlen h.1)]
    clear hlen
    go_enter Tryd.func27, Tryd.ntmps27
    go_wp2_with fail
    go_ret
    refine ⟨by rw [HNO.out]; rfl, ?_⟩
    (repeat' (first | (with_reducible exact Below.refl _ _) | (with_reducible refine Below.alloc ?_ ?_ _) | (with_reducible refine Below.setCell ?_ ?_ _) | (with_reducible refine Below.drew ?_) | (refine Below.trans ?_ (Below.mono (by with_reducible assumption) ?_)) | go_size))
end Go.Proofs.YtdfgdeccejcpfaaDoor
/- Zones that trip: plain words, and impl.ZoneTrips. -/
namespace Go.Proofs.YtdfgdeccejcpfaaDoor
open Go.RowKit Go.Deep
set_option linter.unusedSimpArgs false
set_option linter.unusedVariables false
theorem Own.monoT {α : Type} {k : Nat} {c : α → Nat → Value} {T : TypeId} {w : World} {B B' : Nat} {v : Value} {xs : List α} (h : Own k c T w B v xs) (hb : B' ≤ B) : Own k c T w B' v xs := by
  refine ⟨h.1, ?_⟩
  rcases h.2 with h | ⟨g, cap, cur, e, hB, h⟩
  · exact .inl h
  · exact .inr ⟨g, cap, cur, e, by omega, h⟩
def zAt (zss : List SV) (k : Nat) : List Int := (zss.getD k ⟨none, 0, []⟩).xs
def tripOk (D : Nat → Int) (n : Nat) (S : Int) : Prop := 0 ≤ S ∧ ∀ k, k < n → 0 ≤ D k
/-- What both ZoneTrips return. -/
noncomputable def ztO (D : Nat → Int) (n : Nat) (S : Int) : List Int := @ite _ (tripOk D n S) (Classical.propDecidable _) (idxL (fun k => decide (S < D k)) n) []
theorem ztO_t {D : Nat → Int} {n : Nat} {S : Int} (h : tripOk D n S) : ztO D n S = idxL (fun k => decide (S < D k)) n := by unfold ztO; rw [if_pos h]
theorem ztO_f {D : Nat → Int} {n : Nat} {S : Int} (h : ¬ tripOk D n S) : ztO D n S = [] := by unfold ztO; rw [if_neg h]
theorem ztO_len (D : Nat → Int) (n : Nat) (S : Int) : (ztO D n S).length ≤ n := by
  unfold ztO
  split
  · exact idxL_len _ _
  · simp
theorem idxD_t {D : Nat → Int} {S : Int} {k : Nat} (h : S < D k) : idxL (fun k => decide (S < D k)) (k + 1) = idxL (fun k => decide (S < D k)) k ++ [(k : Int)] := by
  show idxL _ k ++ (if decide (S < D k) = true then [(k : Int)] else []) = _
  rw [if_pos (decide_eq_true h)]
theorem idxD_f {D : Nat → Int} {S : Int} {k : Nat} (h : ¬ S < D k) : idxL (fun k => decide (S < D k)) (k + 1) = idxL (fun k => decide (S < D k)) k := by
  show idxL _ k ++ (if decide (S < D k) = true then [(k : Int)] else []) = _
  rw [if_neg (by simpa using h), List.append_nil]
theorem svReads {w : World} {A : Option Addr} {zss : List SV} (hR : Reads 1 svC w w.heap.size A zss) {k : Nat} (hk : k < zss.length) : ∃ b off, A = some ⟨b, off, none⟩ ∧ b < w.heap.size ∧ w.cell? ⟨b, off + k, none⟩ = some (.slice zss[k].A (zAt zss k).length zss[k].c) := by
  obtain ⟨b, off, e, hb, hc⟩ := hR.at1 hk
  refine ⟨b, off, e, hb, ?_⟩
  rw [hc]
  unfold svC zAt
  rw [getD_lt hk]

set_option maxRecDepth 100000 in
set_option maxHeartbeats 8000000 in
theorem implZoneTrips_any (B : Int) (A A1 A2 A3 A4 : Option Addr) (c c1 c2 c3 c4 : Nat) (ls : List R3) (on : List Bool) (bs : List R2) (lk : List Int) (zss : List SV) (S : Int) (w : World) (hR : Reads 3 r3C w w.heap.size A ls) (hR1 : Reads 1 boolC w w.heap.size A1 on) (hR2 : Reads 2 r2C w w.heap.size A2 bs) (hR3 : Reads 1 intC w w.heap.size A3 lk) (hR4 : Reads 1 svC w w.heap.size A4 zss) (hz : ∀ s ∈ zss, s.xs.length ≤ 1048576 ∧ Reads 1 intC w w.heap.size s.A s.xs)
    (hl : ls.length ≤ 1048576) (hl1 : on.length ≤ 1048576) (hl2 : bs.length ≤ 1048576) (hl3 : lk.length ≤ 1048576) (hl4 : zss.length ≤ 1048576) :
    Calls Tryd.prog 9 #[.agg #[.int .i64 B, .slice A ls.length c], .slice A1 on.length c1, .slice A2 bs.length c2, .slice A3 lk.length c3, .slice A4 zss.length c4, .int .i64 S] w (RetS 1 intC 3 w (ztO (fun k => zdV B ls on bs lk (zAt zss k)) zss.length S)) := by
  have HDC : Hid (∀ W k (hk : k < zss.length), Below w.heap.size w W → Calls Tryd.prog 27 #[.agg #[.int .i64 B, .slice A ls.length c], .slice A1 on.length c1, .slice A2 bs.length c2, .slice A3 lk.length c3, .slice zss[k].A (zAt zss k).length zss[k].c] W fun e w' => e = .returned (.int .i64 (zdV B ls on bs lk (zAt zss k))) ∧ Below W.heap.size W w') := fun W k hk h => by
    have e : zAt zss k = zss[k].xs := by unfold zAt; rw [getD_lt hk]
    have hzk := hz _ (List.getElem_mem hk)
    rw [e]
    exact implZoneDiff_any B A A1 A2 A3 _ c c1 c2 c3 _ ls on bs lk _ W ((hR.below h (Nat.le_refl _)).more h.size) ((hR1.below h (Nat.le_refl _)).more h.size) ((hR2.below h (Nat.le_refl _)).more h.size) ((hR3.below h (Nat.le_refl _)).more h.size) ((hzk.2.below h (Nat.le_refl _)).more h.size) hl hl1 hl2 hl3 hzk.1
  have HRZ := Lib.hid hR4
  clear hR hR1 hR2 hR3 hR4 hz
  have HDB : Hid (∀ k, -8000 ≤ zdV B ls on bs lk (zAt zss k) ∧ zdV B ls on bs lk (zAt zss k) ≤ 8000) := fun k => zdV_bd B ls on bs lk (zAt zss k)
  obtain ⟨D, hD⟩ : ∃ D : Nat → Int, (fun k => zdV B ls on bs lk (zAt zss k)) = D := ⟨_, rfl⟩
  have hDk : ∀ k, zdV B ls on bs lk (zAt zss k) = D k := fun k => by rw [← hD]
  rw [hD]
  simp only [hDk] at HDC HDB
  clear hD hDk
  have HB0 : Hid (Below w.heap.size w (w.alloc (.cells #[.int .i64 B, .slice A ls.length c] 25))) := Below.alloc (Below.refl _ _) (Nat.le_refl _) _
  have HK0 : Hid (Bk (w.alloc (.cells #[.int .i64 B, .slice A ls.length c] 25)) w.heap.size 25 #[.int .i64 B, .slice A ls.length c]) := Bk.new _ _ _
  by_cases hS : S < 0
  · have HNO : Hid (ztO D zss.length S = []) := ztO_f (fun h => by have := h.1; omega)
    go_enter Tryd.func9, Tryd.ntmps9
    go_wp2_with fail
    go_ret
    exact ⟨_, rfl, by rw [HNO.out]; exact (Own.nil (B := w.heap.size)).res, HB0.out⟩
  · go_enter Tryd.func9, Tryd.ntmps9
    go_wp2_with fail
    go_loopw [13, 21] (fun t13 t21 wr => ∃ i : Nat, t21 = .int .i64 i ∧ i ≤ zss.length ∧ Hid (∀ k, k < i → 0 ≤ D k) ∧ Hid (Own 1 intC 3 wr (w.heap.size + 1) t13 (idxL (fun k => decide (S < D k)) i)) ∧ Hid (Bk wr w.heap.size 25 #[.int .i64 B, .slice A ls.length c]) ∧ Hid (Below w.heap.size w wr)) (fun _ t21 _ => zss.length - (intOf t21).toNat)
    case atStart => exact ⟨0, rfl, Nat.zero_le _, fun k hk => by omega, Own.nil, HK0, HB0⟩
    case round =>
      obtain ⟨i, rfl, hi, HG, HV, HK, HB⟩ := hrel
      clear HK0 HB0
      obtain ⟨vA, vc, hv⟩ := HV.out.slice
      subst hv
      have hil := idxL_len (fun k => decide (S < D k)) i
      have hzw := HB.out.size
      have hzk := HK.out.lt
      by_cases hlt : i < zss.length
      · have hi1 : (i : Int) < (zss.length : Int) := by omega
        have hi0 : (0 : Int) ≤ (i : Int) := by omega
        obtain ⟨b, off, hA4, hb, hc⟩ := svReads HRZ.out hlt
        subst hA4
        have hc' := (HB.out.cell (p := ⟨b, off + i, none⟩) hb).trans hc
        have c0 : wr.cell? ⟨w.heap.size, 0, none⟩ = some (.int .i64 B) := HK.out.cell 0
        have c1' : wr.cell? ⟨w.heap.size, 1, none⟩ = some (.slice A ls.length c) := HK.out.cell 1
        have hdb := HDB.out i
        go_wp2_with fail
        refine (HDC.out wr i hlt HB.out).mono ?_
        rintro e w2 ⟨rfl, hb2⟩
        have HV2 := Lib.hid (HV.out.keep hb2)
        have HK2 := Lib.hid (HK.out.keep hb2)
        have HB2 : Hid (Below w.heap.size w w2) := HB.out.trans (hb2.mono HB.out.size)
        have hz2 := HB2.out.size
        have hzk2 := HK2.out.lt
        clear hb2 hc hc' c0 c1' HV HK HB
        obtain ⟨d, hd⟩ : ∃ d, D i = d := ⟨_, rfl⟩
        rw [hd] at hdb ⊢
        have HD := Lib.hid hd; clear hd
        by_cases hn : d < 0
        · have HNO : Hid (ztO D zss.length S = []) := ztO_f (fun h => by have := h.2 i hlt; rw [HD.out] at this; omega)
          go_wp2_with fail
          go_ret
          exact ⟨_, rfl, by rw [HNO.out]; exact (Own.nil (B := w.heap.size)).res, HB2.out⟩
        · have HG2 : Hid (∀ k, k < i + 1 → 0 ≤ D k) := fun k hk => by
            by_cases e : k = i
            · subst e; rw [HD.out]; omega
            · exact HG.out k (by omega)
          by_cases hs : S < d
          · have HID := Lib.hid (idxD_t (D := D) (S := S) (k := i) (by rw [HD.out]; exact hs))
            have hil2 : (idxL (fun k => decide (S < D k)) i).length ≤ 1048576 := by omega
            have hgB : w.heap.size + 1 ≤ w2.heap.size := by omega
            have HL_7 := Lib.hid (Own.lit (k := 1) (c := intC) (B := w.heap.size + 1) w2 3 #[.int .i64 i] 1 [(i : Int)] (by first | exact Nat.le_refl _ | omega) rfl (by omega) rfl); have HQ_7 := Lib.hid (HL_7.out.reads rfl).1; have HV_7 := Lib.hid (Own.alloc (HV2.out) (.cells #[.int .i64 i] 3)); have HK_7 := Lib.hid (Own.blk (HV2.out)); go_wp2_with (first | (at_builtin; refine wpList_app_g (k := 1) (c := intC) _ (by rfl) _ _ _ rfl 3 (.int .i64 0) 8 Tryd.underlying28 (by kernel_rfl) rfl (by decide) (by decide) intC_one _ _ _ rfl HV_7.out _ _ _ _ rfl HQ_7.out ?hm ?hlen ?hB ?_; (case hm => (first | rfl | (simp; done) | omega)); (case hlen => (simp only [List.length_cons, List.length_nil]; omega)); (case hB => ((try simp only [World.size_alloc, World.size_drew]); omega)); intro v_7 w_7 hown_7 hg_7 hat_7; have HW_7 : Hid (Below (w.heap.size + 1) (w2) w_7) := (Below.alloc (Below.refl _ _) (by first | exact Nat.le_refl _ | omega) _).grown hg_7 (by (try simp only [World.size_alloc]); omega) (fun q hq => (HK_7.out q hq).1); have HG_7 := Lib.hid hg_7; have HAT_7 := Lib.hid hat_7; have HO_7 := Lib.hid hown_7; obtain ⟨A_7, c_7, hv_7⟩ := hown_7.slice; simp only [List.length_append, List.length_cons, List.length_nil, Nat.zero_add] at hv_7; subst hv_7; have hz_7 := HG_7.out.size; (try simp only [World.size_alloc] at hz_7); clear hown_7 hg_7 hat_7 HL_7 HQ_7 HV_7))
            have HK7 := Lib.hid ((HK2.out.alloc (.cells #[.int .i64 (i : Int)] 3)).grown HG_7.out (fun e => by have := (HV2.out.blk _ e.symm).1; omega))
            have HB7 : Hid (Below w.heap.size w w_7) := HB2.out.trans (HW_7.out.mono (by omega))
            exact ⟨⟨i + 1, by go_num, by omega, HG2, by unfold Hid; rw [HID.out]; exact HO_7.out, HK7, HB7⟩, by simp [intOf]; omega⟩
          · have HID := Lib.hid (idxD_f (D := D) (S := S) (k := i) (by rw [HD.out]; exact hs))
            go_wp2_with fail
            exact ⟨⟨i + 1, by go_num, by omega, HG2, by unfold Hid; rw [HID.out]; exact HV2.out, HK2, HB2⟩, by simp [intOf]; omega⟩
      · obtain rfl : i = zss.length := by omega
        have HYES := Lib.hid (ztO_t (D := D) (n := zss.length) (S := S) ⟨by omega, HG.out⟩)
        go_wp2_with fail
        go_ret
        exact ⟨_, rfl, by rw [HYES.out]; exact (HV.out.monoT (by omega)).res, HB.out⟩
end Go.Proofs.YtdfgdeccejcpfaaDoor
/- The law on zones that trip: plain words. -/
namespace Go.Proofs.YtdfgdeccejcpfaaDoor
open Go.RowKit Go.Deep
set_option linter.unusedSimpArgs false
set_option linter.unusedVariables false
theorem lsum_le {G : Nat → Int} {p : Nat → Bool} : ∀ {l : List Int}, (∀ y ∈ l, 0 ≤ G y.toNat) → lsumZ G p l ≤ lsumZ G (fun _ => true) l
  | [], _ => Int.le_refl _
  | y :: l, h => by
    have ih := lsum_le (p := p) (l := l) (fun z hz => h z (by simp [hz]))
    have hy := h y (by simp)
    simp only [lsumZ, if_true]
    split <;> omega
theorem idxL_asc (p : Nat → Bool) (n : Nat) : (idxL p n).Pairwise (· < ·) := by
  rw [List.pairwise_iff_getElem]
  intro i j hi hj hij
  have := (idxL_zone p n).asc hij hj
  rw [getD_lt hi, getD_lt hj] at this
  exact this
theorem ztO_asc (D : Nat → Int) (n : Nat) (S : Int) : (ztO D n S).Pairwise (· < ·) := by
  unfold ztO
  split
  · exact idxL_asc _ _
  · exact List.Pairwise.nil
theorem ztO_sub (D : Nat → Int) (n : Nat) (S : Int) (h : 0 ≤ S) : ∀ x ∈ ztO D n (S + 1), x ∈ ztO D n S := by
  intro x hx
  rcases Classical.em (tripOk D n (S + 1)) with ho | ho
  · rw [ztO_t ho] at hx
    have ho2 : tripOk D n S := ⟨h, ho.2⟩
    rw [ztO_t ho2]
    obtain ⟨k, h1, h2, h3⟩ := idxL_mem.1 hx
    have h3 := of_decide_eq_true h3
    exact idxL_mem.2 ⟨k, h1, h2, decide_eq_true (by omega)⟩
  · rw [ztO_f ho] at hx
    cases hx
/-- The zone at an index of the result: its leaks, all together, are greater than the slack. -/
theorem trip_law {nb : Nat} {ls : List R3} {on : List Bool} {bs : List R2} {lk : List Int} {zss : List SV} {S : Int} {y : Int} (h : y ∈ ztO (fun k => zdV nb ls on bs lk (zAt zss k)) zss.length S) :
    ∃ q : Nat, y = q ∧ q < zss.length ∧ lk.length = nb ∧ (∀ i, i < lk.length → 0 ≤ lk.getD i 0 ∧ lk.getD i 0 ≤ 999) ∧ (∀ z ∈ zAt zss q, 0 ≤ z ∧ z < (nb : Int)) ∧ S < lsumZ (fun i => lk.getD i 0) (fun _ => true) (zAt zss q) := by
  rcases Classical.em (tripOk (fun k => zdV nb ls on bs lk (zAt zss k)) zss.length S) with ho | ho
  · rw [ztO_t ho] at h
    obtain ⟨q, h1, h2, h3⟩ := idxL_mem.1 h
    have h3 : S < zdV nb ls on bs lk (zAt zss q) := of_decide_eq_true h3
    have h0 := ho.2 q h2
    rcases zd_law nb ls on bs lk (zAt zss q) with e | ⟨_, hlk, hlo, _, _, hzp, hsum⟩
    · simp only at h0
      omega
    · have hlo2 : ∀ i, i < lk.length → 0 ≤ lk.getD i 0 ∧ lk.getD i 0 ≤ 999 := fun i hi => by rw [getD_lt hi]; exact hlo _ (List.getElem_mem hi)
      have hm := zone_mem hzp
      refine ⟨q, h1, h2, hlk, hlo2, hm, ?_⟩
      have hle := lsum_le (G := fun i => lk.getD i 0) (p := fun k => pB (aliveP ls on bs k)) (l := zAt zss q) (fun z hz => by
        have := hm z hz
        exact (hlo2 z.toNat (by omega)).1)
      omega
  · rw [ztO_f ho] at h
    cases h
end Go.Proofs.YtdfgdeccejcpfaaDoor
/- spec.ZoneTrips. -/
namespace Go.Proofs.YtdfgdeccejcpfaaDoor
open Go.RowKit Go.Deep
set_option linter.unusedSimpArgs false
set_option linter.unusedVariables false

set_option maxRecDepth 100000 in
set_option maxHeartbeats 8000000 in
theorem specZoneTrips_any (B : Int) (A A1 A2 A3 A4 : Option Addr) (c c1 c2 c3 c4 : Nat) (ls : List R3) (on : List Bool) (bs : List R2) (lk : List Int) (zss : List SV) (S : Int) (w : World) (hR : Reads 3 r3C w w.heap.size A ls) (hR1 : Reads 1 boolC w w.heap.size A1 on) (hR2 : Reads 2 r2C w w.heap.size A2 bs) (hR3 : Reads 1 intC w w.heap.size A3 lk) (hR4 : Reads 1 svC w w.heap.size A4 zss) (hz : ∀ s ∈ zss, s.xs.length ≤ 1048576 ∧ Reads 1 intC w w.heap.size s.A s.xs)
    (hl : ls.length ≤ 1048576) (hl1 : on.length ≤ 1048576) (hl2 : bs.length ≤ 1048576) (hl3 : lk.length ≤ 1048576) (hl4 : zss.length ≤ 1048576) :
    Calls Tryd.prog 11 #[.agg #[.int .i64 B, .slice A ls.length c], .slice A1 on.length c1, .slice A2 bs.length c2, .slice A3 lk.length c3, .slice A4 zss.length c4, .int .i64 S] w (RetS 1 intC 3 w (ztO (fun k => zdV B ls on bs lk (zAt zss k)) zss.length S)) := by
  have HDC : Hid (∀ W k (hk : k < zss.length), Below w.heap.size w W → Calls Tryd.prog 28 #[.agg #[.int .i64 B, .slice A ls.length c], .slice A1 on.length c1, .slice A2 bs.length c2, .slice A3 lk.length c3, .slice zss[k].A (zAt zss k).length zss[k].c] W fun e w' => e = .returned (.int .i64 (zdV B ls on bs lk (zAt zss k))) ∧ Below W.heap.size W w') := fun W k hk h => by
    have e : zAt zss k = zss[k].xs := by unfold zAt; rw [getD_lt hk]
    have hzk := hz _ (List.getElem_mem hk)
    rw [e]
    exact specZoneDiff_any B A A1 A2 A3 _ c c1 c2 c3 _ ls on bs lk _ W ((hR.below h (Nat.le_refl _)).more h.size) ((hR1.below h (Nat.le_refl _)).more h.size) ((hR2.below h (Nat.le_refl _)).more h.size) ((hR3.below h (Nat.le_refl _)).more h.size) ((hzk.2.below h (Nat.le_refl _)).more h.size) hl hl1 hl2 hl3 hzk.1
  have HRZ := Lib.hid hR4
  clear hR hR1 hR2 hR3 hR4 hz
  have HDB : Hid (∀ k, -8000 ≤ zdV B ls on bs lk (zAt zss k) ∧ zdV B ls on bs lk (zAt zss k) ≤ 8000) := fun k => zdV_bd B ls on bs lk (zAt zss k)
  obtain ⟨D, hD⟩ : ∃ D : Nat → Int, (fun k => zdV B ls on bs lk (zAt zss k)) = D := ⟨_, rfl⟩
  have hDk : ∀ k, zdV B ls on bs lk (zAt zss k) = D k := fun k => by rw [← hD]
  rw [hD]
  simp only [hDk] at HDC HDB
  clear hD hDk
  have HB0 : Hid (Below w.heap.size w (w.alloc (.cells #[.int .i64 B, .slice A ls.length c] 25))) := Below.alloc (Below.refl _ _) (Nat.le_refl _) _
  have HK0 : Hid (Bk (w.alloc (.cells #[.int .i64 B, .slice A ls.length c] 25)) w.heap.size 25 #[.int .i64 B, .slice A ls.length c]) := Bk.new _ _ _
  have HB1 : Hid (Below w.heap.size w ((w.alloc (.cells #[.int .i64 B, .slice A ls.length c] 25)).alloc (.cells #[] 3))) := HB0.out.alloc HB0.out.size _
  have HK1 := Lib.hid (HK0.out.alloc (.cells #[] 3))
  have HO1 : Hid (Own 1 intC 3 ((w.alloc (.cells #[.int .i64 B, .slice A ls.length c] 25)).alloc (.cells #[] 3)) (w.heap.size + 1) (.slice (some ⟨w.heap.size + 1, 0, none⟩) 0 0) []) := by
    have h := Own.lit (k := 1) (c := intC) (B := w.heap.size + 1) (w.alloc (.cells #[.int .i64 B, .slice A ls.length c] 25)) 3 #[] 0 [] (by simp) rfl (by omega) rfl
    simpa [Hid] using h
  go_enter Tryd.func11, Tryd.ntmps11
  go_wp2_with fail
  go_loopw [13, 14] (fun t13 t14 wr => ∃ i : Nat, t14 = .int .i64 i ∧ i ≤ zss.length ∧ Hid (0 < i → 0 ≤ S) ∧ Hid (∀ k, k < i → 0 ≤ D k) ∧ Hid (Own 1 intC 3 wr (w.heap.size + 1) t13 (idxL (fun k => decide (S < D k)) i)) ∧ Hid (Bk wr w.heap.size 25 #[.int .i64 B, .slice A ls.length c]) ∧ Hid (Below w.heap.size w wr)) (fun _ t14 _ => zss.length - (intOf t14).toNat)
  case atStart => exact ⟨0, rfl, Nat.zero_le _, fun h => by omega, fun k hk => by omega, HO1, HK1, HB1⟩
  case round =>
    obtain ⟨i, rfl, hi, HSS, HG, HV, HK, HB⟩ := hrel
    clear HK0 HB0 HK1 HB1 HO1
    obtain ⟨vA, vc, hv⟩ := HV.out.slice
    subst hv
    have hil := idxL_len (fun k => decide (S < D k)) i
    have hzw := HB.out.size
    have hzk := HK.out.lt
    by_cases hlt : i < zss.length
    · have hi1 : (i : Int) < (zss.length : Int) := by omega
      have hi0 : (0 : Int) ≤ (i : Int) := by omega
      obtain ⟨b, off, hA4, hb, hc⟩ := svReads HRZ.out hlt
      subst hA4
      have hc' := (HB.out.cell (p := ⟨b, off + i, none⟩) hb).trans hc
      have c0 : wr.cell? ⟨w.heap.size, 0, none⟩ = some (.int .i64 B) := HK.out.cell 0
      have c1' : wr.cell? ⟨w.heap.size, 1, none⟩ = some (.slice A ls.length c) := HK.out.cell 1
      have hbw : b < wr.heap.size := Nat.lt_of_lt_of_le hb HB.out.size
      have hdb := HDB.out i
      have HBd : Hid (Below w.heap.size w wr.drew) := HB.out.drew
      have HVd : Hid (Own 1 intC 3 wr.drew (w.heap.size + 1) (.slice vA (idxL (fun k => decide (S < D k)) i).length vc) (idxL (fun k => decide (S < D k)) i)) := HV.out.drew
      have HKd : Hid (Bk wr.drew w.heap.size 25 #[.int .i64 B, .slice A ls.length c]) := HK.out
      go_wp2_with fail
      go_region_held3 (fun w' => w'.cell? ⟨w.heap.size, 0, none⟩ = some (.int .i64 B) ∧ w'.cell? ⟨w.heap.size, 1, none⟩ = some (.slice A ls.length c) ∧ w'.cell? ⟨b, off + i, none⟩ = some (.slice zss[i].A (zAt zss i).length zss[i].c)) (simp [go_sem, World.cell?_alloc_past, *])
        (first | (go_at_call 28; (with_reducible refine (HDC.out _ i hlt (by with_reducible exact HBd.out)).mono ?_); rintro e w2 ⟨rfl, hb2⟩; have HV2 := Lib.hid (HVd.out.keep hb2); have HK2 := Lib.hid (HKd.out.keep hb2); have HB2 : Hid (Below w.heap.size w w2) := HBd.out.trans (hb2.mono HBd.out.size); have q0 : w2.cell? ⟨w.heap.size, 0, none⟩ = some (.int .i64 B) := HK2.out.cell 0; have q1 : w2.cell? ⟨w.heap.size, 1, none⟩ = some (.slice A ls.length c) := HK2.out.cell 1; have q2 := keepB hb2 (g := b) (by exact hbw); clear hb2))
      have hz2 := HB2.out.size
      have hzk2 := HK2.out.lt
      clear hc hc' c0 c1' HV HK HB HVd HKd HBd q0 q1 q2
      obtain ⟨d, hd⟩ : ∃ d, D i = d := ⟨_, rfl⟩
      rw [hd] at hdb ⊢
      have HD := Lib.hid hd; clear hd
      by_cases hn : d < 0
      · have HNO : Hid (ztO D zss.length S = []) := ztO_f (fun h => by have := h.2 i hlt; rw [HD.out] at this; omega)
        have hdn : decide (d < 0) = true := decide_eq_true hn
        go_wp2_with fail
        go_ret
        exact ⟨_, rfl, by rw [HNO.out]; exact (Own.lit (k := 1) (c := intC) (B := w.heap.size) w2 3 #[] 0 [] hz2 rfl (by omega) rfl).res, HB2.out.alloc hz2 _⟩
      · have hdn : decide (d < 0) = false := decide_eq_false hn
        by_cases hS : S < 0
        · have HNO : Hid (ztO D zss.length S = []) := ztO_f (fun h => by have := h.1; omega)
          go_wp2_with fail
          go_ret
          exact ⟨_, rfl, by rw [HNO.out]; exact (Own.lit (k := 1) (c := intC) (B := w.heap.size) w2 3 #[] 0 [] hz2 rfl (by omega) rfl).res, HB2.out.alloc hz2 _⟩
        · have HS2 : Hid (0 < i + 1 → 0 ≤ S) := fun _ => by omega
          have HG2 : Hid (∀ k, k < i + 1 → 0 ≤ D k) := fun k hk => by
            by_cases e : k = i
            · subst e; rw [HD.out]; omega
            · exact HG.out k (by omega)
          by_cases hs : S < d
          · have HID := Lib.hid (idxD_t (D := D) (S := S) (k := i) (by rw [HD.out]; exact hs))
            have hil2 : (idxL (fun k => decide (S < D k)) i).length ≤ 1048576 := by omega
            have hgB : w.heap.size + 1 ≤ w2.heap.size := by omega
            have HL_7 := Lib.hid (Own.lit (k := 1) (c := intC) (B := w.heap.size + 1) w2 3 #[.int .i64 i] 1 [(i : Int)] (by first | exact Nat.le_refl _ | omega) rfl (by omega) rfl); have HQ_7 := Lib.hid (HL_7.out.reads rfl).1; have HV_7 := Lib.hid (Own.alloc (HV2.out) (.cells #[.int .i64 i] 3)); have HK_7 := Lib.hid (Own.blk (HV2.out)); go_wp2_with (first | (at_builtin; refine wpList_app_g (k := 1) (c := intC) _ (by rfl) _ _ _ rfl 3 (.int .i64 0) 8 Tryd.underlying28 (by kernel_rfl) rfl (by decide) (by decide) intC_one _ _ _ rfl HV_7.out _ _ _ _ rfl HQ_7.out ?hm ?hlen ?hB ?_; (case hm => (first | rfl | (simp; done) | omega)); (case hlen => (simp only [List.length_cons, List.length_nil]; omega)); (case hB => ((try simp only [World.size_alloc, World.size_drew]); omega)); intro v_7 w_7 hown_7 hg_7 hat_7; have HW_7 : Hid (Below (w.heap.size + 1) (w2) w_7) := (Below.alloc (Below.refl _ _) (by first | exact Nat.le_refl _ | omega) _).grown hg_7 (by (try simp only [World.size_alloc]); omega) (fun q hq => (HK_7.out q hq).1); have HG_7 := Lib.hid hg_7; have HAT_7 := Lib.hid hat_7; have HO_7 := Lib.hid hown_7; obtain ⟨A_7, c_7, hv_7⟩ := hown_7.slice; simp only [List.length_append, List.length_cons, List.length_nil, Nat.zero_add] at hv_7; subst hv_7; have hz_7 := HG_7.out.size; (try simp only [World.size_alloc] at hz_7); clear hown_7 hg_7 hat_7 HL_7 HQ_7 HV_7))
            have HK7 := Lib.hid ((HK2.out.alloc (.cells #[.int .i64 (i : Int)] 3)).grown HG_7.out (fun e => by have := (HV2.out.blk _ e.symm).1; omega))
            have HB7 : Hid (Below w.heap.size w w_7) := HB2.out.trans (HW_7.out.mono (by omega))
            exact ⟨⟨i + 1, by go_num, by omega, HS2, HG2, by unfold Hid; rw [HID.out]; exact HO_7.out, HK7, HB7⟩, by simp [intOf]; omega⟩
          · have HID := Lib.hid (idxD_f (D := D) (S := S) (k := i) (by rw [HD.out]; exact hs))
            go_wp2_with fail
            exact ⟨⟨i + 1, by go_num, by omega, HS2, HG2, by unfold Hid; rw [HID.out]; exact HV2.out, HK2, HB2⟩, by simp [intOf]; omega⟩
    · obtain rfl : i = zss.length := by omega
      have HYES : Hid (ztO D zss.length S = idxL (fun k => decide (S < D k)) zss.length) := by
        by_cases h0 : 0 < zss.length
        · exact ztO_t ⟨HSS.out h0, HG.out⟩
        · have e : zss.length = 0 := by omega
          unfold Hid
          by_cases ho : tripOk D zss.length S
          · exact ztO_t ho
          · rw [ztO_f ho, e]; rfl
      go_wp2_with fail
      go_ret
      exact ⟨_, rfl, by rw [HYES.out]; exact (HV.out.monoT (by omega)).res, HB.out⟩
end Go.Proofs.YtdfgdeccejcpfaaDoor
/- The law FnZoneTrips: its walk. -/
namespace Go.Proofs.YtdfgdeccejcpfaaDoor
open Go.RowKit Go.Deep
set_option linter.unusedSimpArgs false
set_option linter.unusedVariables false

set_option maxRecDepth 100000 in
set_option maxHeartbeats 8000000 in
theorem fnZoneTrips_any (A : Option Addr) (n c : Nat) (bs : List Int) (w : World) (hn : bs.length = n) (hb : ∀ x ∈ bs, U8 x) (hc : n ≤ c) (hcm : c ≤ maxLen) (hR : Reads 1 byteC w w.heap.size A bs) :
    Calls Tryd.prog 3 #[.slice A n c] w fun e w' => e = .returned (.bool true) ∧ Below w.heap.size w w' := by
  unfold maxLen at hcm
  subst hn
  have HR := Lib.hid hR; clear hR
  have HB := Lib.hid hb; clear hb
  have HB_w : Hid (Below w.heap.size w w) := Below.refl _ _
  have hbb : ∀ x : Bool, (x != x) = false := fun x => by simp
  have hnn : ∀ x : Int, (x != x) = false := fun x => by simp
  by_cases hl : ¬ bs.length ≤ 1048576
  · have hl' : (1048576 : Int) < bs.length := by omega
    go_enter Tryd.func3, Tryd.ntmps3
    go_wp2_with fail
    go_ret
    exact ⟨rfl, Below.refl _ _⟩
  have hl : bs.length ≤ 1048576 := by omega
  have hl' : ¬ (1048576 : Int) < bs.length := by omega
  go_enter Tryd.func3, Tryd.ntmps3
  go_wp2_with fail
  with_reducible refine (drawZoneTrips_any A c bs w HR.out HB.out hl hc hcm).mono ?_
  rintro e w1 ⟨nb, A1, A2, A3, A5, A4, c1, c2, c3, c5, c4, ls, on, bs2, lk, zss, S, rfl, hn7, hl1, hl2, hl3, hlk5, hz4, hS0, hS1, hzl, hd1, hd2, hd3, hd5, hd4, ⟨ob, hin⟩, hb1⟩
  have HN_wa : Hid (NetAt (w1.alloc (.cells #[.int .i64 (nb : Int), .slice A1 ls.length c1] 25)) w1.heap.size (nb : Int) (.slice A1 ls.length c1)) := Bk.new _ _ _
  have HB_wa : Hid (Below w.heap.size w (w1.alloc (.cells #[.int .i64 (nb : Int), .slice A1 ls.length c1] 25))) := hb1.alloc hb1.size _
  have HD_wa := Lib.hid (hd1.allocZ (.cells #[.int .i64 (nb : Int), .slice A1 ls.length c1] 25))
  have HE_wa := Lib.hid (hd2.allocZ (.cells #[.int .i64 (nb : Int), .slice A1 ls.length c1] 25))
  have HF_wa := Lib.hid (hd3.allocZ (.cells #[.int .i64 (nb : Int), .slice A1 ls.length c1] 25))
  have HG_wa := Lib.hid (hd4.allocZ (.cells #[.int .i64 (nb : Int), .slice A1 ls.length c1] 25))
  have HL_wa := Lib.hid (hd5.allocZ (.cells #[.int .i64 (nb : Int), .slice A1 ls.length c1] 25))
  have HI_wa : Hid (ZsOk (w1.alloc (.cells #[.int .i64 (nb : Int), .slice A1 ls.length c1] 25)) w.heap.size ob zss) := fun s hs => (hin s hs).below (Below.alloc (Below.refl w1.heap.size w1) (Nat.le_refl _) _)
  have HZL := Lib.hid hzl
  clear hd1 hd2 hd3 hd4 hd5 hb1 hin hzl HR HB
  go_upto_region 4 with fail
  generalize w1.alloc (.cells #[.int .i64 (nb : Int), .slice A1 ls.length c1] 25) = wa at HN_wa HB_wa HD_wa HE_wa HF_wa HG_wa HL_wa HI_wa ⊢
  generalize w1.heap.size = g3 at HN_wa ⊢
  have hm1 : ls.length ≤ 1048576 := by omega
  have hm2 : on.length ≤ 1048576 := by omega
  have hm3 : bs2.length ≤ 1048576 := by omega
  have hm4 : zss.length ≤ 1048576 := by omega
  have hm5 : lk.length ≤ 1048576 := by omega
  have HZR : Hid (∀ W, ZsOk W w.heap.size ob zss → ∀ s ∈ zss, s.xs.length ≤ 1048576 ∧ Reads 1 intC W W.heap.size s.A s.xs) := fun W h s hs => ⟨Nat.le_trans (HZL.out s hs) (by omega), (h s hs).reads⟩
  have s0 := HN_wa.out.c0
  have s1 := HN_wa.out.c1
  go_wp2_with fail; ((with_reducible refine (implZoneTrips_any (nb : Int) A1 A2 A3 A5 A4 c1 c2 c3 c5 c4 ls on bs2 lk zss S wa HD_wa.out.reads.1 HE_wa.out.reads.1 HF_wa.out.reads.1 HL_wa.out.reads.1 HG_wa.out.reads.1 (HZR.out _ HI_wa.out) hm1 hm2 hm3 hm5 hm4).mono ?_); rintro e w2 ⟨v2, rfl, hr2, hb_w2⟩); have HB_w2 : Hid (Below w.heap.size w w2) := HB_wa.out.trans (hb_w2.mono HB_wa.out.size); have HN_w2 := Lib.hid (HN_wa.out.below hb_w2); have HD_w2 := Lib.hid (HD_wa.out.below hb_w2); have HE_w2 := Lib.hid (HE_wa.out.below hb_w2); have HF_w2 := Lib.hid (HF_wa.out.below hb_w2); have HG_w2 := Lib.hid (HG_wa.out.below hb_w2); have HL_w2 := Lib.hid (HL_wa.out.below hb_w2); have HI_w2 := Lib.hid (HI_wa.out.below hb_w2); clear hb_w2
  clear s0 s1
  have HX_w2 := Lib.hid hr2
  obtain ⟨A6, c6, rfl, -⟩ := hr2
  have s0 := HN_w2.out.c0
  have s1 := HN_w2.out.c1
  go_wp2_with fail; ((with_reducible refine (specZoneTrips_any (nb : Int) A1 A2 A3 A5 A4 c1 c2 c3 c5 c4 ls on bs2 lk zss S w2 HD_w2.out.reads.1 HE_w2.out.reads.1 HF_w2.out.reads.1 HL_w2.out.reads.1 HG_w2.out.reads.1 (HZR.out _ HI_w2.out) hm1 hm2 hm3 hm5 hm4).mono ?_); rintro e w3 ⟨v3, rfl, hr3, hb_w3⟩); have HB_w3 : Hid (Below w.heap.size w w3) := HB_w2.out.trans (hb_w3.mono HB_w2.out.size); have HN_w3 := Lib.hid (HN_w2.out.below hb_w3); have HD_w3 := Lib.hid (HD_w2.out.below hb_w3); have HE_w3 := Lib.hid (HE_w2.out.below hb_w3); have HF_w3 := Lib.hid (HF_w2.out.below hb_w3); have HG_w3 := Lib.hid (HG_w2.out.below hb_w3); have HL_w3 := Lib.hid (HL_w2.out.below hb_w3); have HI_w3 := Lib.hid (HI_w2.out.below hb_w3); have HX_w3 := Lib.hid (HX_w2.out.below hb_w3); clear hb_w3
  clear s0 s1
  have HY_w3 := Lib.hid hr3
  obtain ⟨A7, c7, rfl, -⟩ := hr3
  have hxl := ztO_len (fun k => zdV nb ls on bs2 lk (zAt zss k)) zss.length S
  have hxl2 := ztO_len (fun k => zdV nb ls on bs2 lk (zAt zss k)) zss.length (S + 1)
  have HTRIP : Hid (∀ y ∈ ztO (fun k => zdV nb ls on bs2 lk (zAt zss k)) zss.length S, ∃ q : Nat, y = q ∧ q < zss.length ∧ lk.length = nb ∧ (∀ i, i < lk.length → 0 ≤ lk.getD i 0 ∧ lk.getD i 0 ≤ 999) ∧ (∀ z ∈ zAt zss q, 0 ≤ z ∧ z < (nb : Int)) ∧ S < lsumZ (fun i => lk.getD i 0) (fun _ => true) (zAt zss q)) := fun y hy => trip_law hy
  have HASC := Lib.hid (ztO_asc (fun k => zdV nb ls on bs2 lk (zAt zss k)) zss.length S)
  have HSUB : Hid (0 ≤ S → ∀ x ∈ ztO (fun k => zdV nb ls on bs2 lk (zAt zss k)) zss.length (S + 1), x ∈ ztO (fun k => zdV nb ls on bs2 lk (zAt zss k)) zss.length S) := fun h => ztO_sub _ _ _ h
  have HTC : Hid (∀ W, Reads 3 r3C W W.heap.size A1 ls → Reads 1 boolC W W.heap.size A2 on → Reads 2 r2C W W.heap.size A3 bs2 → Reads 1 intC W W.heap.size A5 lk → Reads 1 svC W W.heap.size A4 zss → ZsOk W w.heap.size ob zss → Calls Tryd.prog 9 #[.agg #[.int .i64 (nb : Int), .slice A1 ls.length c1], .slice A2 on.length c2, .slice A3 bs2.length c3, .slice A5 lk.length c5, .slice A4 zss.length c4, .int .i64 (S + 1)] W (RetS 1 intC 3 W (ztO (fun k => zdV nb ls on bs2 lk (zAt zss k)) zss.length (S + 1)))) := fun W h1 h2 h3 h4 h5 h6 => implZoneTrips_any (nb : Int) A1 A2 A3 A5 A4 c1 c2 c3 c5 c4 ls on bs2 lk zss (S + 1) W h1 h2 h3 h4 h5 (HZR.out _ h6) hm1 hm2 hm3 hm5 hm4
  generalize ztO (fun k => zdV nb ls on bs2 lk (zAt zss k)) zss.length S = x at *
  generalize ztO (fun k => zdV nb ls on bs2 lk (zAt zss k)) zss.length (S + 1) = x2 at *
  have hx8 : x.length ≤ 1048576 := by omega
  have hx28 : x2.length ≤ 1048576 := by omega
  go_wp2_with fail; ((with_reducible refine (sameInts_any A6 A7 c6 c7 x w3 HX_w3.out.reads.1 HY_w3.out.reads.1 hx8).mono ?_); rintro e w4 ⟨rfl, hb_w4⟩); have HB_w4 : Hid (Below w.heap.size w w4) := HB_w3.out.trans (hb_w4.mono HB_w3.out.size); have HN_w4 := Lib.hid (HN_w3.out.below hb_w4); have HD_w4 := Lib.hid (HD_w3.out.below hb_w4); have HE_w4 := Lib.hid (HE_w3.out.below hb_w4); have HF_w4 := Lib.hid (HF_w3.out.below hb_w4); have HG_w4 := Lib.hid (HG_w3.out.below hb_w4); have HL_w4 := Lib.hid (HL_w3.out.below hb_w4); have HI_w4 := Lib.hid (HI_w3.out.below hb_w4); have HX_w4 := Lib.hid (HX_w3.out.below hb_w4); clear hb_w4
  go_wp2_with fail
  go_loopw [10] (fun t10 wr => ∃ k : Nat, t10 = .int .i64 k ∧ k ≤ x.length ∧ wr = w4) (fun t10 _ => x.length - (intOf t10).toNat)
  case atStart => exact ⟨0, rfl, Nat.zero_le _, rfl⟩
  case round =>
    obtain ⟨k, rfl, hk, rfl⟩ := hrel
    by_cases hlt : k < x.length
    · have hk1 : (k : Int) < (x.length : Int) := by omega
      have hk0 : (0 : Int) ≤ (k : Int) := by omega
      obtain ⟨q, hq, hqz, hlkn, hlo, hzm, hgt⟩ := HTRIP.out x[k] (List.getElem_mem hlt)
      obtain ⟨xb, xo, hA6, _, kx⟩ := HX_w4.out.reads.1.at1 hlt
      subst hA6
      have kx1 : wr.cell? ⟨xb, xo + k, none⟩ = some (.int .i64 (q : Int)) := by rw [← hq]; exact kx
      clear kx hq
      obtain ⟨zb, zo, hA4, _, kz⟩ := svReads HG_w4.out.reads.1 hqz
      subst hA4
      have hq1 : (q : Int) < (zss.length : Int) := by omega
      have hq0 : (0 : Int) ≤ (q : Int) := by omega
      have hzs30 : (zAt zss q).length ≤ 30 := by unfold zAt; rw [getD_lt hqz]; exact HZL.out _ (List.getElem_mem hqz)
      have HRZ : Hid (Reads 1 intC wr wr.heap.size zss[q].A (zAt zss q)) := by
        unfold Hid zAt; rw [getD_lt hqz]
        exact (HI_w4.out _ (List.getElem_mem hqz)).reads
      obtain ⟨zA, hzA⟩ : ∃ a, zss[q].A = a := ⟨_, rfl⟩
      obtain ⟨zc, hzc⟩ : ∃ a, zss[q].c = a := ⟨_, rfl⟩
      rw [hzA] at HRZ kz
      rw [hzc] at kz
      clear hzA hzc
      generalize zAt zss q = zs at kz hzm hgt hzs30 HRZ
      have HZM := Lib.hid hzm; have HLO := Lib.hid hlo; have HLKN := Lib.hid hlkn
      obtain ⟨T, hT⟩ : ∃ T, lsumZ (fun i => lk.getD i 0) (fun _ => true) zs = T := ⟨_, rfl⟩
      rw [hT] at hgt
      have HS0 : Hid (lsumZ (fun i => lk.getD i 0) (fun _ => true) (zs.drop 0) = T - 0) := by unfold Hid; rw [List.drop_zero, hT]; omega
      clear hT hzm hlo hlkn
      go_wp2_with fail
      go_loopw [11, 12] (fun t11 t12 wi => ∃ (j : Nat) (s : Int), t12 = .int .i64 j ∧ t11 = .int .i64 s ∧ j ≤ zs.length ∧ 0 ≤ s ∧ s ≤ 999 * j ∧ Hid (lsumZ (fun i => lk.getD i 0) (fun _ => true) (zs.drop j) = T - s) ∧ wi = wr) (fun _ t12 _ => zs.length - (intOf t12).toNat)
      case atStart => exact ⟨0, 0, rfl, rfl, Nat.zero_le _, by omega, by omega, HS0, rfl⟩
      case round =>
        obtain ⟨j, s, rfl, rfl, hj, hs0, hs1, HS, rfl⟩ := hrel
        clear HS0
        by_cases hjt : j < zs.length
        · have hj1 : (j : Int) < (zs.length : Int) := by omega
          have hj0 : (0 : Int) ≤ (j : Int) := by omega
          have hzm := HZM.out zs[j] (List.getElem_mem hjt)
          obtain ⟨ib, io, hzA, _, ki⟩ := HRZ.out.at1 hjt
          subst hzA
          have ki1 : wr.cell? ⟨ib, io + j, none⟩ = some (.int .i64 zs[j]) := ki
          have hdrop : zs.drop j = zs[j] :: zs.drop (j + 1) := List.drop_eq_getElem_cons hjt
          have hS := HS.out
          rw [hdrop] at hS
          obtain ⟨p, hp⟩ : ∃ p : Nat, zs[j] = (p : Int) := ⟨zs[j].toNat, by omega⟩
          rw [hp] at hzm ki1 hS
          clear ki hp hdrop
          simp only [lsumZ, Int.toNat_natCast, if_true] at hS
          have hpl : p < lk.length := by rw [HLKN.out]; omega
          have hlo := HLO.out p hpl
          obtain ⟨lb, lo, hA5, _, kl⟩ := HL_w4.out.reads.1.at1 hpl
          subst hA5
          have kl1 : wr.cell? ⟨lb, lo + p, none⟩ = some (.int .i64 (lk.getD p 0)) := by rw [getD_lt hpl]; exact kl
          clear kl
          generalize lk.getD p 0 = y at hS hlo kl1
          have hp1 : (p : Int) < (lk.length : Int) := by omega
          have hp0 : (0 : Int) ≤ (p : Int) := by omega
          have HSh := Lib.hid hS; clear hS
          have hw : wrap64 (s + y) = s + y := by rw [← IntWalk.i64_left]; exact IntWalk.i64_in _ (by omega)
          go_wp2_with fail
          refine ⟨⟨j + 1, s + y, by go_num, by first | rfl | (rw [hw]), by omega, by omega, by omega, ?_, by first | rfl | trivial⟩, by simp [intOf]; omega⟩
          have h := HSh.out
          unfold Hid; omega
        · have hjz : j = zs.length := by omega
          have hS := HS.out
          rw [hjz, List.drop_length] at hS
          have h0 : lsumZ (fun i => lk.getD i 0) (fun _ => true) [] = 0 := rfl
          have hS2 : (0 : Int) = T - s := h0.symm.trans hS
          have hle : ¬ s ≤ S := by omega
          clear hS h0
          go_wp2_with fail
          exact ⟨⟨k + 1, by go_num, by omega, by first | rfl | trivial⟩, by simp [intOf]; omega⟩
    · clear HTRIP
      have s0 := HN_w4.out.c0
      have s1 := HN_w4.out.c1
      by_cases hneg : S < 0
      · have hdn : decide (S < 0) = true := decide_eq_true hneg
        clear s0 s1
        have HAC := Lib.hid (fun W (h : Reads 1 intC W W.heap.size A6 x) => ascend_any A6 x.length c6 x W rfl h hx8 HASC.out)
        go_wp2_with fail
        with_reducible refine (HAC.out wr HX_w4.out.reads.1).mono ?_
        rintro e w5 ⟨rfl, hb5⟩
        have HB_w5 : Hid (Below w.heap.size w w5) := HB_w4.out.trans (hb5.mono HB_w4.out.size)
        clear hb5
        go_wp2_with fail; ((with_reducible refine (alive_any w5).mono ?_); rintro e w6 ⟨rfl, hb_w6⟩); have HB_w6 : Hid (Below w.heap.size w w6) := HB_w5.out.trans (hb_w6.mono HB_w5.out.size); clear hb_w6
        go_wp2_with fail
        go_ret
        exact ⟨rfl, HB_w6.out⟩
      · have hdn : decide (S < 0) = false := decide_eq_false hneg
        have hw : wrap64 (S + 1) = S + 1 := by rw [← IntWalk.i64_left]; exact IntWalk.i64_in _ (by omega)
        have HAC := Lib.hid (fun W (h : Reads 1 intC W W.heap.size A6 x) => ascend_any A6 x.length c6 x W rfl h hx8 HASC.out)
        go_wp2_with fail
        with_reducible refine (HTC.out wr HD_w4.out.reads.1 HE_w4.out.reads.1 HF_w4.out.reads.1 HL_w4.out.reads.1 HG_w4.out.reads.1 HI_w4.out).mono ?_
        rintro e w5 ⟨v5, rfl, hr5, hb5⟩
        have HV5 := Lib.hid hr5
        obtain ⟨A8, c8, rfl, -⟩ := hr5
        have HB_w5 : Hid (Below w.heap.size w w5) := HB_w4.out.trans (hb5.mono HB_w4.out.size)
        have HX_w5 := Lib.hid (HX_w4.out.below hb5)
        clear hb5 s0 s1
        go_wp2_with fail; ((with_reducible refine (within_any A8 A6 x2.length x.length c8 c6 x2 x w5 rfl rfl HV5.out.reads.1 HX_w5.out.reads.1 hx28 hx8 (HSUB.out (by omega))).mono ?_); rintro e w6 ⟨rfl, hb_w6⟩); have HB_w6 : Hid (Below w.heap.size w w6) := HB_w5.out.trans (hb_w6.mono HB_w5.out.size); have HX_w6 := Lib.hid (HX_w5.out.below hb_w6); clear hb_w6
        go_wp2_with fail; ((with_reducible refine (HAC.out w6 HX_w6.out.reads.1).mono ?_); rintro e w7 ⟨rfl, hb_w7⟩); have HB_w7 : Hid (Below w.heap.size w w7) := HB_w6.out.trans (hb_w7.mono HB_w6.out.size); clear hb_w7
        go_wp2_with fail; ((with_reducible refine (alive_any w7).mono ?_); rintro e w8 ⟨rfl, hb_w8⟩); have HB_w8 : Hid (Below w.heap.size w w8) := HB_w7.out.trans (hb_w8.mono HB_w7.out.size); clear hb_w8
        go_wp2_with fail
        go_ret
        exact ⟨rfl, HB_w8.out⟩
end Go.Proofs.YtdfgdeccejcpfaaDoor
/- For every input, laws.FnZoneTrips returns true, and its arguments read afterwards as before; the listed tables start as the program text lays them (the card ties them). -/
namespace Go.Proofs.YtdfgdeccejcpfaaDoor.fnZoneTrips
open Go.ChangeShapes Go.WideShapes Go.ChangeAt Go.RowKit Go.Deep
set_option linter.unusedVariables false
theorem own : ownKnob Tryd.prog.godebug = none := by kernel_rfl
theorem laidOut : laidOutB Tryd.prog = true := by kernel_rfl
/-- What the heap that the door leaves reads as. -/
theorem door_met (os : Os) (args : Array Value) : laidMetH Tryd.prog Rows.fnZoneTripsRow.laid ((World.doorLaid Tryd.prog 400 os).forCall (fun _ _ => 0) ⟨#[], args, []⟩).memory :=
  laidMetH_of_parts3 (fuel := 8) (laidMet_of_run' 8 (by kernel_rfl) (by kernel_rfl)) (by kernel_rfl) (by kernel_rfl)
set_option maxRecDepth 100000 in
theorem lifted (os : Os) (started : os.Started) (H : Type) (enc : TypeId × Value → H) :
    ReturnsInHanded {} Tryd.checked os 3 .any (fun w args => (Rows.fnZoneTripsSpec.pre enc Tryd.prog Tryd.f3 [] false w args ∧ laidMetH Tryd.prog Rows.fnZoneTripsRow.laid w) ∧ sizedMet enc Tryd.prog Tryd.f3 (OpenSpec.ofChange Rows.fnZoneTripsSpec) false w args)
      (Rows.fnZoneTripsSpec.post enc Tryd.prog Tryd.f3 false true false false) := by
  refine returnsInHanded_of_change_and (C := Tryd.checked) (X := fun w _ => laidMetH Tryd.prog Rows.fnZoneTripsRow.laid w) (fun _ _ _ hh h => h.of_heap hh) own started (by kernel_rfl) Tryd.func3
    (ChangeSpec.witness_shaped (enc := enc) (C := Tryd.checked) (os := os) (X := fun w _ => laidMetH Tryd.prog Rows.fnZoneTripsRow.laid w) false (World.doorLaid Tryd.prog 400 os) #[.slice none 0 0] 8 rfl (World.shaped_of_RefB (by kernel_rfl) (by kernel_rfl)) (by kernel_rfl) (by kernel_rfl) (by kernel_rfl) (door_met os _)) ?_
  intro W base args ds gs before hval0 hW _ _ hL _
  have hval : ∀ (j : Nat) t v, Tryd.f3.params[j]? = some t → args[j]? = some v → Value.okWide Tryd.prog W .any base t v := hval0
  have hW' := hW
  obtain ⟨p, q, hA0, hV, rfl, hfz, hnd⟩ := hW
  have hA : DataW.TrodAll enc Tryd.prog W 0 (fun _ => true) true Tryd.f3.params.toList args.toList ds p := hA0
  rw [Tryd.params3] at hA hval
  obtain ⟨v0, vs0, d0, ds0, p0, q0, hargs, rfl, rfl, h0, r0⟩ := trodAll_cons hA
  obtain ⟨rfl, rfl, rfl⟩ := trodAll_nil r0
  obtain rfl : args = #[v0] := by cases args; simp_all
  obtain ⟨rfl, rfl⟩ := trodVars_none hV
  have k0 := h0
  have lt0 : ∀ x ∈ p0, x.block < W.heap.size := by obtain ⟨m, hm⟩ := k0; exact DataW.trod_lt m _ _ _ hm
  obtain ⟨A0, n0, c0, rfl⟩ := okWide_slice Tryd.underlying22 (hval 0 22 v0 rfl rfl)
  obtain ⟨xs0, e0, g0, l0, m0, rd0⟩ := open_row _ Tryd.underlying22 (by kernel_rfl) (by decide) (good_byte Tryd.underlying5) h0
  clear hA0 hval0
  refine (fnZoneTrips_any A0 n0 c0 xs0 W e0 g0 l0 m0 rd0).mono fun e W' ⟨he, bel⟩ => ?_
  subst he
  exact ⟨_, rfl, _, _, _, [], _, [], hW', trodAll_mk1 (shut_bool Tryd.underlying4 _), (trodAll_cons_mk (Below.trod laidOut (by kernel_rfl) (of_decide_eq_true (by kernel_rfl)) k0 bel lt0) trodAll_mk0), rfl, bel.frame _, fun h => by cases h⟩
theorem row_proved : Rows.FnZoneTripsSaid :=
  OpenClaim.holds_of_wide 3 Tryd.f3 rfl rfl rfl rfl rfl rfl rfl ⟨rfl, rfl, rfl, rfl, rfl⟩ rfl rfl rfl rfl rfl (by kernel_rfl) Tryd.func3 (by kernel_rfl)
    (of_decide_eq_true (by kernel_rfl)) (by unfold Func.isWrapper; first | (rw [if_pos (by decide +kernel)]; kernel_rfl) | (rw [if_neg (by decide +kernel)]; exact ⟨rfl, rfl⟩))
    (fun os started H enc _ => lifted os started H enc)
set_option maxRecDepth 100000 in
theorem proved : Rows.FnZoneTripsCardSaid :=
  Claim7.holds_tied_plain_at .later [] [.data, .data, .data] true (true, "ef2494b24e90e1e7c9a0b30b58b717824f091322b8b45cd3114df0bdd6b6492a") false
    row_proved (fun _ h => by cases h) (by kernel_rfl) (fun _ h => by cases h) fnZoneTrips_row_tie rfl ⟨rfl, rfl⟩ (by kernel_rfl) rfl
    (fun f fn hf hfn => by
      obtain rfl : f = 3 := Option.some.inj ((show Tryd.prog.funcNamed Rows.fnZoneTripsRow.func = some 3 by kernel_rfl).symm.trans hf) |>.symm
      obtain rfl : fn = Tryd.f3 := (Option.some.inj (Tryd.func3.symm.trans hfn)).symm
      exact ⟨by kernel_rfl, fun j t ht => by
        rw [Tryd.params3] at ht
        rcases j with _ | j
        · obtain rfl : t = 22 := by simpa using ht.symm
          exact (show Tryd.prog.wantsStandIn 22 = false by kernel_rfl)
        · simp at ht⟩)
    (by kernel_rfl)
#print axioms proved
end Go.Proofs.YtdfgdeccejcpfaaDoor.fnZoneTrips
