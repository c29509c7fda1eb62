/- Sets of buses, as the program keeps them. -/
import Derived.Test.YtdfgdeccejcpfaaZnU
import Derived.Test.YtdfgdeccejcpfaaRow
namespace Go.Proofs.Ytdfgdeccejcpfaa
open Go.RowKit Go.Deep
set_option linter.unusedSimpArgs false
set_option linter.unusedVariables false

abbrev uV (u : Nat → Nat) (j : Nat) : Value := .int .i64 (u j : Int)
set_option maxHeartbeats 2000000 in
theorem find_any (g n c : Nat) (r u : Nat → Nat) (a : Nat) (w : World) (hp : Ptrs n r u) (ha : a < n) (hn : n ≤ 8) (hrow : w.rowIs g 3 n (uV u)) :
    Calls Try.prog 86 #[.slice (some ⟨g, 0, none⟩) n c, .int .i64 a] w fun e w' => e = .returned (.int .i64 (r a : Int)) ∧ Mk g (g + 1) w w' ∧ ∃ u', Ptrs n r u' ∧ w'.rowIs g 3 n (uV u') := by
  have HP := Lib.hid hp; clear hp
  have HW := Lib.hid hrow; clear hrow
  go_enter Try.func86, Try.ntmps86
  go_wp2_with fail
  go_loopw [1] (fun t wr => ∃ (u' : Nat → Nat) (b : Nat), t = .int .i64 b ∧ b < n ∧ Hid (r b = r a) ∧ Hid (Ptrs n r u') ∧ Hid (wr.rowIs g 3 n (uV u')) ∧ Hid (Mk g (g + 1) w wr)) (fun t _ => (intOf t).toNat)
  case atStart => exact ⟨u, a, rfl, ha, rfl, HP, HW, Mk.refl _ _ _⟩
  case round =>
    obtain ⟨u', b, rfl, hb, HRB, HP', HW', HM⟩ := hrel
    clear HP HW
    have hc1 := HW'.out.cell hb
    have hle := HP'.out.le b hb
    obtain ⟨u1, hu1⟩ : ∃ u1, u' b = u1 := ⟨_, rfl⟩
    unfold uV at hc1
    rw [hu1] at hc1
    rw [hu1] at hle
    by_cases hne : u1 = b
    · have hroot := HP'.out.root b hb (by rw [hu1]; exact hne)
      have hnn : ((u1 : Int) != (b : Int)) = false := by simp [hne]
      have HRR : Hid ((b : Nat) = r a) := hroot.symm.trans HRB.out
      have HU := Lib.hid hu1
      clear hne hroot hu1
      go_wp2
      go_ret
      rw [← HRR.out]
      exact ⟨rfl, HM.out, u', HP'.out, HW'.out⟩
    · have hlt : u1 < b := by omega
      have hnn : ((u1 : Int) != (b : Int)) = true := by simp; omega
      have hc2 := HW'.out.cell (i := u1) (by omega)
      have hle2 := HP'.out.le u1 (by omega)
      obtain ⟨u2, hu2⟩ : ∃ u2, u' u1 = u2 := ⟨_, rfl⟩
      unfold uV at hc2
      rw [hu2] at hc2
      rw [hu2] at hle2
      have hf := HW'.out.frozen
      have hz := HW'.out.lt
      have HPN : Hid (Ptrs n r (setF u' b u2)) := by
        have := HP'.out.halve hb (by rw [hu1]; omega)
        rw [hu1, hu2] at this; exact this
      have HRN : Hid (r u2 = r a) := by
        have e1 := HP'.out.same u1 (by omega)
        have e2 := HP'.out.same b hb
        rw [hu2] at e1; rw [hu1] at e2
        unfold Hid; rw [e1, e2]; exact HRB.out
      have hb1 : (b : Int) < (n : Int) := by omega
      have hb2 : (u1 : Int) < (n : Int) := by omega
      have HU := Lib.hid (And.intro hu1 hu2)
      clear hu1 hu2
      go_wp2
      refine ⟨⟨setF u' b u2, u2, rfl, by omega, HRN, HPN, ?_, ?_⟩, by simp [intOf]; omega⟩
      · unfold Hid
        refine (HW'.out.set b _).congr (fun j hj => ?_)
        unfold uV setF
        by_cases e : j = b
        · rw [if_pos e, if_pos e]
        · rw [if_neg e, if_neg e]
      · exact HM.out.set (p := ⟨g, b, none⟩) (Nat.le_refl _) (by show g < g + 1; omega) _
theorem Mk.trans {B E : Nat} {w w1 w2 : World} (h : Mk B E w w1) (k : Mk B E w1 w2) : Mk B E w w2 :=
  ⟨k.os.trans h.os, k.tape.trans h.tape, k.output.trans h.output, k.size.trans h.size, fun g hg => (k.block g hg).trans (h.block g hg)⟩
theorem same_any (g n c : Nat) (r u : Nat → Nat) (a b : Nat) (w : World) (hp : Ptrs n r u) (ha : a < n) (hb : b < n) (hn : n ≤ 8) (hrow : w.rowIs g 3 n (uV u)) :
    Calls Try.prog 82 #[.slice (some ⟨g, 0, none⟩) n c, .int .i64 a, .int .i64 b] w fun e w' => e = .returned (.bool (decide (r a = r b))) ∧ Mk g (g + 1) w w' ∧ ∃ u', Ptrs n r u' ∧ w'.rowIs g 3 n (uV u') := by
  have HP := Lib.hid hp; clear hp
  have HW := Lib.hid hrow; clear hrow
  go_enter Try.func82, Try.ntmps82
  go_wp2_with fail
  refine (find_any g n c r u a w HP.out ha hn HW.out).mono ?_
  rintro e w1 ⟨rfl, hm1, u1, hp1, hr1⟩
  have HM1 := Lib.hid hm1; have HP1 := Lib.hid hp1; have HR1 := Lib.hid hr1
  clear hm1 hp1 hr1
  go_wp2_with fail
  refine (find_any g n c r u1 b w1 HP1.out hb hn HR1.out).mono ?_
  rintro e w2 ⟨rfl, hm2, u2, hp2, hr2⟩
  have HM2 := Lib.hid (HM1.out.trans hm2); have HP2 := Lib.hid hp2; have HR2 := Lib.hid hr2
  clear hm2 hp2 hr2
  have hd : ((r a : Int) == (r b : Int)) = decide (r a = r b) := by
    rw [beqd]; exact decide_eq_decide.2 ⟨fun h => by omega, fun h => by omega⟩
  have HD := Lib.hid hd
  clear hd
  go_wp2
  go_ret
  rw [← HD.out]
  exact ⟨rfl, HM2.out, u2, HP2.out, HR2.out⟩
theorem join_any (g n c : Nat) (r u : Nat → Nat) (a b : Nat) (w : World) (hq : Roots n r) (hp : Ptrs n r u) (ha : a < n) (hb : b < n) (hn : n ≤ 8) (hrow : w.rowIs g 3 n (uV u)) :
    Calls Try.prog 83 #[.slice (some ⟨g, 0, none⟩) n c, .int .i64 a, .int .i64 b] w fun e w' => e = .returned (.tuple #[]) ∧ Mk g (g + 1) w w' ∧ Roots n (joinR r (max (r a) (r b)) (min (r a) (r b))) ∧ ∃ u', Ptrs n (joinR r (max (r a) (r b)) (min (r a) (r b))) u' ∧ w'.rowIs g 3 n (uV u') := by
  have HP := Lib.hid hp; clear hp
  have HW := Lib.hid hrow; clear hrow
  have hla := hq.lt a ha
  have hlb := hq.lt b hb
  have HA := Lib.hid (hq.idem a ha); have HB := Lib.hid (hq.idem b hb)
  have HQ := Lib.hid hq; clear hq
  go_enter Try.func83, Try.ntmps83
  go_wp2_with fail
  refine (find_any g n c r u a w HP.out ha hn HW.out).mono ?_
  rintro e w1 ⟨rfl, hm1, u1, hp1, hr1⟩
  have HM1 := Lib.hid hm1; have HP1 := Lib.hid hp1; have HR1 := Lib.hid hr1
  clear hm1 hp1 hr1
  go_wp2_with fail
  refine (find_any g n c r u1 b w1 HP1.out hb hn HR1.out).mono ?_
  rintro e w2 ⟨rfl, hm2, u2, hp2, hr2⟩
  have HM2 := Lib.hid (HM1.out.trans hm2); have HP2 := Lib.hid hp2; have HR2 := Lib.hid hr2
  clear hm2 hp2 hr2
  have hf := HR2.out.frozen
  have hz := HR2.out.lt
  generalize hra : r a = p at *
  generalize hrb : r b = q at *
  have HRA := Lib.hid hra; have HRB := Lib.hid hrb
  clear hra hrb
  have hi1 : (p : Int) < (n : Int) := by omega
  have hi2 : (q : Int) < (n : Int) := by omega
  have hcp := HR2.out.cell hla
  have hcq := HR2.out.cell hlb
  unfold uV at hcp hcq
  obtain ⟨y1, hy1⟩ : ∃ y, (u2 p : Int) = y := ⟨_, rfl⟩
  obtain ⟨y2, hy2⟩ : ∃ y, (u2 q : Int) = y := ⟨_, rfl⟩
  rw [hy1] at hcp
  rw [hy2] at hcq
  clear hy1 hy2
  by_cases hpq : (p : Int) < (q : Int)
  · have e1 : max p q = q := by omega
    have e2 : min p q = p := by omega
    have HJ := Lib.hid (Ptrs.join HQ.out HP2.out HB.out HA.out (by omega) hlb)
    have HE := Lib.hid (And.intro e1 e2)
    clear e1 e2
    go_wp2
    refine bodyPost_end (v := .tuple #[]) (by simp [results, Try.results83, go_sem]; try rfl) rfl ?_
    rw [HRA.out, HRB.out, HE.out.1, HE.out.2]
    refine ⟨rfl, HM2.out.set (p := ⟨g, q, none⟩) (Nat.le_refl _) (by show g < g + 1; omega) _, HJ.out.1, _, HJ.out.2, ?_⟩
    refine (HR2.out.set q _).congr (fun j hj => ?_)
    unfold uV setF
    by_cases e : j = q
    · rw [if_pos e, if_pos e]
    · rw [if_neg e, if_neg e]
  · have e1 : max p q = p := by omega
    have e2 : min p q = q := by omega
    have HJ := Lib.hid (Ptrs.join HQ.out HP2.out HA.out HB.out (by omega) hla)
    have HE := Lib.hid (And.intro e1 e2)
    clear e1 e2
    by_cases hqp : (q : Int) < (p : Int)
    · go_wp2
      refine bodyPost_end (v := .tuple #[]) (by simp [results, Try.results83, go_sem]; try rfl) rfl ?_
      rw [HRA.out, HRB.out, HE.out.1, HE.out.2]
      refine ⟨rfl, HM2.out.set (p := ⟨g, p, none⟩) (Nat.le_refl _) (by show g < g + 1; omega) _, HJ.out.1, _, HJ.out.2, ?_⟩
      refine (HR2.out.set p _).congr (fun j hj => ?_)
      unfold uV setF
      by_cases e : j = p
      · rw [if_pos e, if_pos e]
      · rw [if_neg e, if_neg e]
    · obtain rfl : p = q := by omega
      go_wp2
      refine bodyPost_end (v := .tuple #[]) (by simp [results, Try.results83, go_sem]; try rfl) rfl ?_
      rw [HRA.out, HRB.out, HE.out.1, HE.out.2]
      refine ⟨rfl, HM2.out.set (p := ⟨g, p, none⟩) (Nat.le_refl _) (by show g < g + 1; omega) _, HJ.out.1, _, HJ.out.2, ?_⟩
      refine (HR2.out.set p _).congr (fun j hj => ?_)
      unfold uV setF
      by_cases e : j = p
      · rw [if_pos e, if_pos e]
      · rw [if_neg e, if_neg e]
theorem newUnion_any (n : Nat) (hn : n ≤ 8) (w : World) :
    Calls Try.prog 81 #[.int .i64 n] w fun e w' => e = .returned (.slice (some ⟨w.heap.size, 0, none⟩) n n) ∧ Below w.heap.size w w' ∧ w'.rowIs w.heap.size 3 n (uV id) := by
  have hmk := fun W => run_mk (P := Try.prog) 96 3 (.int .i64 0) 1 8 n Try.underlying96 (by kernel_rfl) (by omega) (by omega) W
  go_enter Try.func81, Try.ntmps81
  go_wp2_with fail
  go_loopw [9] (fun t wr => ∃ i : Nat, t = .int .i64 i ∧ i ≤ n ∧ Hid (wr.rowIs w.heap.size 3 n (fun j => if j < i then uV id j else .int .i64 0)) ∧ Hid (Below w.heap.size w wr)) (fun t _ => n - (intOf t).toNat)
  case atStart =>
    refine ⟨0, rfl, Nat.zero_le _, ?_, ?_⟩
    · unfold Hid
      have h := World.rowIs_made w (.int .i64 0) n 3
      try simp only [Nat.mul_one]
      exact h.congr (fun i _ => by simp)
    · unfold Hid; (repeat' (first | (with_reducible exact Below.refl _ _) | (with_reducible refine Below.alloc ?_ ?_ _) | (with_reducible refine Below.setCell ?_ ?_ _) | (with_reducible refine Below.drew ?_) | (refine Below.trans ?_ (Below.mono (by with_reducible assumption) ?_)) | go_size))
  case round =>
    obtain ⟨i, rfl, hi, HRow, HB⟩ := hrel
    clear hmk
    by_cases hlt : i < n
    · have hc2 := HRow.out.cell hlt
      have hf2 := HRow.out.frozen i
      simp only [Nat.lt_irrefl, if_false] at hc2
      have hi1 : (i : Int) < (n : Int) := by omega
      go_wp2
      refine ⟨⟨i + 1, by go_num, by omega, ?_, ?_⟩, by simp [intOf]; omega⟩
      · unfold Hid
        refine (HRow.out.set i _).congr (fun j hj => ?_)
        by_cases hji : j = i
        · subst hji; rw [if_pos rfl, if_pos (by omega)]; rfl
        · rw [if_neg hji]
          by_cases hj2 : j < i
          · rw [if_pos hj2, if_pos (by omega)]
          · rw [if_neg hj2, if_neg (by omega)]
      · unfold Hid; exact HB.out.setCell (Nat.le_refl _) _
    · go_wp2
      go_ret
      exact ⟨rfl, HB.out, HRow.out.congr (fun j hj => by rw [if_pos (by omega)])⟩
end Go.Proofs.Ytdfgdeccejcpfaa
