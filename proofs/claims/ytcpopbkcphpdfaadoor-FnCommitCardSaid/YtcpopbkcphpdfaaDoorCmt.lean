/- Commit: the plain law; the state of a number. -/
import Derived.Test.YtcpopbkcphpdfaaDoorComB
import Derived.Test.YtcpopbkcphpdfaaDoorBits
namespace Go.Proofs.YtcpopbkcphpdfaaDoor
open Go.RowKit Go.Deep
set_option linter.unusedSimpArgs false
set_option linter.unusedVariables false

theorem runL_cnt : ∀ {xs : List R4} {on : List Bool}, on.length = xs.length → (runL xs on).length = (on.filter id).length
  | [], [], _ => rfl
  | [], _ :: _, h => by simp at h
  | _ :: _, [], h => by simp at h
  | x :: xs, b :: on, h => by
    have := runL_cnt (xs := xs) (on := on) (by simpa using h)
    cases b <;> simp [runL, this]
theorem bits_pop : ∀ n, n < 9 → ∀ s, s < 2 ^ n → ((bitsL s n).filter id).length = popN s := by decide +kernel
theorem run_pop {xs : List R4} {s : Nat} (h8 : xs.length < 9) (hs : s < 2 ^ xs.length) : (runL xs (bitsL s xs.length)).length = popN s := by
  rw [runL_cnt (by simp), bits_pop _ h8 _ hs]
theorem pop_le (s : Nat) : popN s ≤ 8 := by
  unfold popN
  simp [List.range_succ]
  have : ∀ q, q % 2 ≤ 1 := fun q => by omega
  have h0 := this s; have h1 := this (s / 2); have h2 := this (s / 4); have h3 := this (s / 8); have h4 := this (s / 16); have h5 := this (s / 32); have h6 := this (s / 64); have h7 := this (s / 128)
  omega
def comS (xs : List R4) (L : Int) (s : Nat) : Int := comC xs (bitsL s xs.length) L
def sprS (xs : List R4) (L : Int) (s : Nat) : Int := sprC xs (bitsL s xs.length) L
/-- The best of the first states. -/
def bestF (xs : List R4) (L sp : Int) : Nat → Int
  | 0 => -1
  | s + 1 => if (0 ≤ comS xs L s ∧ sp ≤ sprS xs L s) ∧ (bestF xs L sp s < 0 ∨ comS xs L s < comS xs L (bestF xs L sp s).toNat ∨ (comS xs L s = comS xs L (bestF xs L sp s).toNat ∧ popN s < popN (bestF xs L sp s).toNat)) then (s : Int) else bestF xs L sp s
theorem bestF_bd (xs : List R4) (L sp : Int) : ∀ s, bestF xs L sp s = -1 ∨ ∃ b : Nat, bestF xs L sp s = (b : Int) ∧ b < s ∧ 0 ≤ comS xs L b ∧ sp ≤ sprS xs L b
  | 0 => .inl rfl
  | s + 1 => by
    unfold bestF
    split
    · rename_i h; exact .inr ⟨s, rfl, by omega, h.1.1, h.1.2⟩
    · rcases bestF_bd xs L sp s with h | ⟨b, h, hb, h1⟩
      · exact .inl h
      · exact .inr ⟨b, h, by omega, h1⟩
theorem bestF_off {xs : List R4} {L sp : Int} {s : Nat} (h : ¬ (0 ≤ comS xs L s ∧ sp ≤ sprS xs L s)) : bestF xs L sp (s + 1) = bestF xs L sp s := by
  simp only [bestF]; rw [if_neg (fun hh => h hh.1)]
theorem bestF_first {xs : List R4} {L sp : Int} {s : Nat} (h : 0 ≤ comS xs L s ∧ sp ≤ sprS xs L s) (hb : bestF xs L sp s = -1) : bestF xs L sp (s + 1) = (s : Int) := by
  simp only [bestF]; rw [if_pos ⟨h, .inl (by omega)⟩]
theorem bestF_new {xs : List R4} {L sp : Int} {s b : Nat} (h : 0 ≤ comS xs L s ∧ sp ≤ sprS xs L s) (hb : bestF xs L sp s = (b : Int)) (hn : comS xs L s < comS xs L b ∨ (comS xs L s = comS xs L b ∧ popN s < popN b)) : bestF xs L sp (s + 1) = (s : Int) := by
  simp only [bestF]; rw [hb, Int.toNat_natCast, if_pos ⟨h, .inr hn⟩]
theorem bestF_old {xs : List R4} {L sp : Int} {s b : Nat} (hb : bestF xs L sp s = (b : Int)) (hn : ¬ (comS xs L s < comS xs L b ∨ (comS xs L s = comS xs L b ∧ popN s < popN b))) : bestF xs L sp (s + 1) = (b : Int) := by
  simp only [bestF]; rw [hb, Int.toNat_natCast, if_neg (fun hh => by rcases hh.2 with h | h
                                                                     · omega
                                                                     · exact hn h)]
/-- What Commit returns. -/
def cmtO (xs : List R4) (L sp : Int) : Option (List Bool) := if (unisV xs = true ∧ 0 ≤ sp) ∧ 0 ≤ bestF xs L sp (2 ^ xs.length) then some (bitsL (bestF xs L sp (2 ^ xs.length)).toNat xs.length) else none
theorem cmtO_off {xs : List R4} {L sp : Int} (h : ¬ (unisV xs = true ∧ 0 ≤ sp)) : cmtO xs L sp = none := by unfold cmtO; rw [if_neg (fun hh => h hh.1)]
theorem cmtO_none {xs : List R4} {L sp : Int} (h : bestF xs L sp (2 ^ xs.length) = -1) : cmtO xs L sp = none := by unfold cmtO; rw [if_neg (fun hh => by omega)]
theorem cmtO_some {xs : List R4} {L sp : Int} {b : Nat} (h1 : unisV xs = true ∧ 0 ≤ sp) (h : bestF xs L sp (2 ^ xs.length) = (b : Int)) : cmtO xs L sp = some (bitsL b xs.length) := by
  unfold cmtO; rw [h, if_pos ⟨h1, by omega⟩, Int.toNat_natCast]
theorem cmtO_len (xs : List R4) (L sp : Int) : ((cmtO xs L sp).getD []).length ≤ 6 := by
  unfold cmtO
  split
  · rename_i h; simp; exact (unisV_t.1 h.1.1).1
  · simp
theorem pow_bd {n : Nat} (h : n ≤ 6) : 1 ≤ 2 ^ n ∧ 2 ^ n ≤ 64 := by
  refine ⟨Nat.one_le_two_pow, ?_⟩
  have : 2 ^ n ≤ 2 ^ 6 := Nat.pow_le_pow_right (by omega) h
  omega
theorem bitsL_snoc (s i : Nat) : bitsL s (i + 1) = bitsL s i ++ [bitN s i] := by unfold bitsL; rw [List.range_succ]; simp
theorem div_step (s i : Nat) : s / 2 ^ i / 2 = s / 2 ^ (i + 1) := by rw [Nat.pow_succ, Nat.div_div_eq_div_mul]

set_option maxRecDepth 100000 in
set_option maxHeartbeats 2000000 in
theorem specStateOf_any (s n : Nat) (hn : n ≤ 10) (hs : s < 2 ^ n) (w : World) :
    Calls Tryd.prog 81 #[.int .i64 s, .int .i64 n] w (RetP 1 boolC 4 w (bitsL s n) true) := by
  have hN : 2 ^ n ≤ 1024 := Nat.pow_le_pow_right (by omega) hn
  have h1 : inB (n : Int) 0 10 = true := inB_t.2 ⟨by omega, by omega⟩
  have h2 : inB (s : Int) 0 (2 ^ n - 1) = true := inB_t.2 ⟨by omega, by have : (s : Int) < ((2 ^ n : Nat) : Int) := by omega
                                                                        push_cast at this; omega⟩
  have hp : (1 : Int) ≤ 2 ^ n ∧ (2 : Int) ^ n ≤ 1024 := by
    have e : ((2 ^ n : Nat) : Int) = (2 : Int) ^ n := by push_cast; rfl
    have := Nat.one_le_two_pow (n := n)
    omega
  obtain ⟨hp1, hp2⟩ := hp
  go_enter Tryd.func81, Tryd.ntmps81
  go_wp2_with (go_at_call 61; refine (l1In_any _ _ _ _).mono ?_; rintro e w' ⟨rfl, rfl⟩)
  clear h1 h2 hp1 hp2
  go_loopw [0, 6, 7] (fun r t u wr => ∃ (i q : Nat), u = .int .i64 i ∧ i ≤ n ∧ r = .int .i64 q ∧ q ≤ 1024 ∧ Hid (s / 2 ^ i = q) ∧ Hid (Own 1 boolC 4 wr w.heap.size t (bitsL s i)) ∧ Hid (Below w.heap.size w wr)) (fun _ _ u _ => n - (intOf u).toNat)
  case atStart =>
    refine ⟨0, s, rfl, Nat.zero_le _, rfl, by omega, by unfold Hid; simp, ?_, ?_⟩
    · unfold Hid; exact Own.lit (k := 1) (c := boolC) (B := w.heap.size) w 4 #[] 0 [] (Nat.le_refl _) rfl (by omega) rfl
    · unfold Hid; (repeat' (first | (with_reducible exact Below.refl _ _) | (with_reducible refine Below.alloc ?_ ?_ _) | (with_reducible refine Below.setCell ?_ ?_ _) | (with_reducible refine Below.drew ?_) | (refine Below.trans ?_ (Below.mono (by with_reducible assumption) ?_)) | go_size))
  case round =>
    obtain ⟨i, q, rfl, hi, rfl, hq, HQ, HV, HB⟩ := hrel
    have hzw := HB.out.size
    obtain ⟨vA, vc, hvv⟩ := HV.out.slice
    rw [bitsL_len] at hvv
    subst hvv
    by_cases hlt : i < n
    · have hbit : bitN s i = (q % 2 == 1) := by unfold bitN; rw [HQ.out]
      have HST : Hid (bitsL s (i + 1) = bitsL s i ++ [((q % 2 : Nat) == 1)]) := by unfold Hid; rw [bitsL_snoc, hbit]
      have HQ2 : Hid (s / 2 ^ (i + 1) = q / 2) := by unfold Hid; rw [← div_step, HQ.out]
      clear hbit
      have hblk := HV.out.blk
      have HBLK := Lib.hid hblk; clear hblk
      obtain ⟨o, ho⟩ : ∃ o : Bool, ((q : Int) % 2 == 1) = o := ⟨_, rfl⟩
      have ho2 : ((q % 2 : Nat) == 1) = o := by rw [← ho, Bool.eq_iff_iff]; simp; omega
      have HO2 := Lib.hid ho2; clear ho2
      have HL2 := Lib.hid (Own.lit (k := 1) (c := boolC) (B := w.heap.size) wr 4 #[.bool o] 1 [o] hzw rfl (by omega) rfl)
      have HR3 := Lib.hid (HL2.out.reads rfl).1
      have HV3 := Lib.hid (HV.out.alloc (.cells #[.bool o] 4))
      go_wp2_with (first
        | (at_builtin
           refine wpList_app (k := 1) (c := boolC) _ rfl _ _ _ rfl 4 (.bool false) 1 Tryd.underlying50 (by kernel_rfl) rfl (by decide) (by decide) boolC_one _ _ _ rfl HV3.out _ _ _ _ rfl HR3.out ?hm ?hlen ?hB ?_
           case hm => rfl
           case hlen => rw [bitsL_len]; simp only [List.length_cons, List.length_nil]; omega
           case hB => rw [World.size_alloc]; omega
           intro v4 w4 hown4 hg4 hat4
           have HB4 : Hid (Below w.heap.size w w4) := (HB.out.alloc hzw _).grown hg4 (by rw [World.size_alloc]; omega) (fun k hk => (HBLK.out k hk).1)
           have HO4 := Lib.hid hown4
           clear hown4 hg4 hat4))
      refine ⟨⟨i + 1, q / 2, by go_num, by omega, by first | rfl | (congr 1; omega), by omega, HQ2, ?_, HB4⟩, by simp [intOf]; omega⟩
      unfold Hid; rw [HST.out, HO2.out]; exact HO4.out
    · obtain rfl : i = n := by omega
      go_wp2
      go_ret2
      exact ⟨_, rfl, HV.out.res, HB.out⟩
end Go.Proofs.YtcpopbkcphpdfaaDoor
