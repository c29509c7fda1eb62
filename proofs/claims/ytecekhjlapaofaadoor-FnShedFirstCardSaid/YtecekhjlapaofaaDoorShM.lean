/- spec.ShedLeast. -/
import Derived.Test.YtecekhjlapaofaaDoorShL
namespace Go.Proofs.YtecekhjlapaofaaDoor
open Go.RowKit Go.Deep
set_option linter.unusedSimpArgs false
set_option linter.unusedVariables false
theorem slO_none {xs : List R2} {need : Int} (h : slBest xs need (2 ^ xs.length) < 0) : slO xs need = none := by
  unfold slO
  by_cases hp : BlksP xs
  · rw [if_pos hp, if_pos h]
  · rw [if_neg hp]
theorem slO_some {xs : List R2} {need : Int} {b : Nat} (hp : BlksP xs) (h : slBest xs need (2 ^ xs.length) = (b : Int)) : slO xs need = some (setIdx b) := by
  unfold slO; rw [if_pos hp, h, if_neg (by omega), Int.toNat_natCast]
theorem slO_bad {xs : List R2} {need : Int} (hp : ¬ BlksP xs) : slO xs need = none := by unfold slO; rw [if_neg hp]
theorem pow_bd8 {n : Nat} (h : n ≤ 8) : 1 ≤ 2 ^ n ∧ 2 ^ n ≤ 256 := by
  refine ⟨Nat.one_le_two_pow, ?_⟩
  have : 2 ^ n ≤ 2 ^ 8 := Nat.pow_le_pow_right (by omega) h
  simpa using this
theorem slBest_take {xs : List R2} {need : Int} {s : Nat} (h : slBetter xs need s (slBest xs need s)) : slBest xs need (s + 1) = (s : Int) := by simp only [slBest]; rw [if_pos h]
theorem slBest_keep {xs : List R2} {need : Int} {s : Nat} (h : ¬ slBetter xs need s (slBest xs need s)) : slBest xs need (s + 1) = slBest xs need s := by simp only [slBest]; rw [if_neg h]
/-- What the reference's sum of a set is. -/
def HSumT (A : Option Addr) (c : Nat) (xs : List R2) : Prop := ∀ (s : Nat) (W : World) (B : Option Addr) (d n : Nat), s < 2 ^ xs.length → Reads 2 r2C W W.heap.size A xs → Reads 1 intC W W.heap.size B (setIdx s) → (setIdx s).length = n → Calls Tryd.prog 30 #[.slice A xs.length c, .slice B n d] W fun e w' => e = .returned (.int .i64 (setSum xs s xs.length)) ∧ Below W.heap.size W w'
theorem hsum_t (A : Option Addr) (c : Nat) {xs : List R2} (hp : BlksP xs) (hl : xs.length ≤ 1048576) : HSumT A c xs := by
  intro s W B d n hs h1 h2 hn
  subst hn
  have := specShedSum_any A B c d xs (setIdx s) W h1 h2 (setIdx_I64 s) hl (by have := setIdx_len s; omega)
  rw [shed_set hp hs] at this
  exact this
theorem set_ret {s : Nat} (hs : s < 256) (W : World) : Calls Tryd.prog 38 #[.int .i64 s] W fun e w' => ∃ B d, e = .returned (.slice B (popN s) d) ∧ Reads 1 intC w' w'.heap.size B (setIdx s) ∧ Below W.heap.size W w' := by
  refine (l19Set_any s hs W).mono fun e w' hh => ?_
  obtain ⟨v, he, hr, hb⟩ := hh
  obtain ⟨B, d, hv, h⟩ := hr
  subst hv
  rw [← pop_set s hs] at he
  refine ⟨B, d, he, ?_, hb⟩
  exact (Res.reads (T := 3) (B := W.heap.size) (cp := d) (n := (setIdx s).length) ⟨B, d, rfl, h⟩).1
set_option maxRecDepth 100000 in
set_option maxHeartbeats 8000000 in
theorem specShedLeast_any (A : Option Addr) (c : Nat) (xs : List R2) (need : Int) (w : World) (hR : Reads 2 r2C w w.heap.size A xs) (hl : xs.length ≤ 1048576) :
    Calls Tryd.prog 17 #[.slice A xs.length c, .int .i64 need] w (RetP 1 intC 3 w ((slO xs need).getD []) (slO xs need).isSome) := by
  have HR := Lib.hid hR; clear hR
  by_cases hp : BlksP xs
  · have hv := blksV_t.2 hp
    have h8 := hp.1
    have HSM := Lib.hid (hsum_t A c hp hl)
    have HP := Lib.hid hp; clear hp
    have hpw := pow_bd8 h8
    generalize hNN : 2 ^ xs.length = NN at hpw
    have hNI : (2 : Int) ^ xs.length = (NN : Int) := by rw [← hNN]; push_cast; rfl
    obtain ⟨hp1, hp2⟩ := hpw
    have HNN := Lib.hid hNN; clear hNN
    go_enter Tryd.func17, Tryd.ntmps17
    go_wp2_with fail; ((with_reducible refine (specBlocksValid_any A c xs w HR.out hl).mono ?_); rintro e w1 ⟨rfl, hb_1⟩); have hz_1 := hb_1.size; (try simp only [World.size_alloc, World.size_setCell, World.size_drew] at hz_1)
    have HB1 : Hid (Below w.heap.size w w1) := by unfold Hid; (repeat' (first | (with_reducible exact Below.refl _ _) | (with_reducible refine Below.alloc ?_ ?_ _) | (with_reducible refine Below.setCell ?_ ?_ _) | (with_reducible refine Below.drew ?_) | (refine Below.trans ?_ (Below.mono (by with_reducible assumption) ?_)) | go_size))
    clear hb_1 hz_1
    go_wp2_with fail
    go_loopw [6, 7] (fun t6 t7 wr => ∃ (s : Nat) (be : Int), t7 = .int .i64 s ∧ s ≤ NN ∧ t6 = .int .i64 be ∧ -1 ≤ be ∧ be < NN ∧ Hid (slBest xs need s = be) ∧ Hid (Below w.heap.size w wr)) (fun _ t7 _ => NN - (intOf t7).toNat)
    case atStart => exact ⟨0, -1, rfl, Nat.zero_le _, rfl, by omega, by omega, rfl, HB1⟩
    case round =>
      obtain ⟨s, be, rfl, hs, rfl, hbe0, hbe1, HBE, HB⟩ := hrel
      clear HB1
      by_cases hlt : s < NN
      · have hlt' : s < 2 ^ xs.length := by rw [HNN.out]; exact hlt
        have hs256 : s < 256 := by omega
        have hbd := setSum_bd HP.out s (k := xs.length) (Nat.le_refl _)
        have hpo := pop_le8 s
        obtain ⟨S, hS⟩ : ∃ S, setSum xs s xs.length = S := ⟨_, rfl⟩
        rw [hS] at hbd
        have HSS : Hid (∀ (W : World) (B : Option Addr) (d n : Nat), Reads 2 r2C W W.heap.size A xs → Reads 1 intC W W.heap.size B (setIdx s) → (setIdx s).length = n → Calls Tryd.prog 30 #[.slice A xs.length c, .slice B n d] W fun e w' => e = .returned (.int .i64 S) ∧ Below W.heap.size W w') := fun W B d n h1 h2 h3 => by rw [← hS]; exact HSM.out s W B d n hlt' h1 h2 h3
        have HSV := Lib.hid hS
        clear hS
        obtain ⟨hbd0, hbd1⟩ := hbd
        have HPS := Lib.hid (pop_set s hs256).symm
        have HRr : Hid (Reads 2 r2C wr wr.heap.size A xs) := (HR.out.below HB.out (Nat.le_refl _)).more HB.out.size
        go_wp2_with fail; ((with_reducible refine (set_ret hs256 wr).mono ?_); rintro e w2 ⟨B1, d1, rfl, hr1, hb_2⟩); have hz_2 := hb_2.size; (try simp only [World.size_alloc, World.size_setCell, World.size_drew] at hz_2)
        have HRa : Hid (Reads 2 r2C w2 w2.heap.size A xs) := (HRr.out.below hb_2 (Nat.le_refl _)).more hb_2.size
        have HB2 : Hid (Below w.heap.size w w2) := HB.out.trans (hb_2.mono HB.out.size)
        have HR1 := Lib.hid hr1
        clear hr1 hb_2 hz_2
        go_wp2_with fail; ((with_reducible refine (HSS.out w2 B1 d1 _ HRa.out HR1.out HPS.out).mono ?_); rintro e w3 ⟨rfl, hb_3⟩); have hz_3 := hb_3.size; (try simp only [World.size_alloc, World.size_setCell, World.size_drew] at hz_3)
        have HRb : Hid (Reads 2 r2C w3 w3.heap.size A xs) := (HRa.out.below hb_3 (Nat.le_refl _)).more hb_3.size
        have HB3 : Hid (Below w.heap.size w w3) := HB2.out.trans (hb_3.mono HB2.out.size)
        clear hb_3 hz_3 HSS HRa HR1 HB2 HB HRr
        by_cases hne : S < need
        · have hk := slBest_keep (xs := xs) (need := need) (s := s) (fun h => by have := h.1; have := HSV.out; omega)
          have HK := Lib.hid hk; clear hk
          go_wp2_with fail
          all_goals try (exfalso; omega; done)
          exact ⟨⟨s + 1, be, by go_num, by omega, rfl, hbe0, hbe1, HK.out.trans HBE.out, HB3⟩, by simp [intOf]; omega⟩
        · by_cases hb0 : be < 0
          · have hk := slBest_take (xs := xs) (need := need) (s := s) ⟨by have := HSV.out; omega, .inl (by have := HBE.out; omega)⟩
            have HK := Lib.hid hk; clear hk
            go_wp2_with fail
            all_goals try (exfalso; omega; done)
            exact ⟨⟨s + 1, s, by go_num, by omega, rfl, by omega, by omega, HK.out, HB3⟩, by simp [intOf]; omega⟩
          · obtain ⟨b, rfl⟩ : ∃ b : Nat, be = b := ⟨be.toNat, by omega⟩
            have hb256 : b < 256 := by omega
            have hblt : b < 2 ^ xs.length := by rw [HNN.out]; omega
            obtain ⟨T, hT⟩ : ∃ T, setSum xs b xs.length = T := ⟨_, rfl⟩
            have HST : Hid (∀ (W : World) (B : Option Addr) (d n : Nat), Reads 2 r2C W W.heap.size A xs → Reads 1 intC W W.heap.size B (setIdx b) → (setIdx b).length = n → Calls Tryd.prog 30 #[.slice A xs.length c, .slice B n d] W fun e w' => e = .returned (.int .i64 T) ∧ Below W.heap.size W w') := fun W B d n h1 h2 h3 => by rw [← hT]; exact HSM.out b W B d n hblt h1 h2 h3
            have HPT := Lib.hid (pop_set b hb256).symm
            have HTV := Lib.hid hT
            clear hT
            have hb0' : ¬ ((b : Int) < 0) := hb0
            have hpo2 := pop_le8 b
            have hbet : slBetter xs need s (slBest xs need s) ↔ (S < T ∨ (S = T ∧ popN s < popN b)) := by
              rw [HBE.out]
              unfold slBetter
              rw [Int.toNat_natCast, HSV.out, HTV.out, HPS.out, HPT.out]
              constructor
              · rintro ⟨_, h | h | h⟩
                · omega
                · exact .inl h
                · exact .inr h
              · intro h; exact ⟨by omega, .inr h⟩
            have HBT := Lib.hid hbet; clear hbet
            go_wp2_with fail; ((with_reducible refine (set_ret hb256 w3).mono ?_); rintro e w4 ⟨B2, d2, rfl, hr2, hb_4⟩); have hz_4 := hb_4.size; (try simp only [World.size_alloc, World.size_setCell, World.size_drew] at hz_4)
            have HRc : Hid (Reads 2 r2C w4 w4.heap.size A xs) := (HRb.out.below hb_4 (Nat.le_refl _)).more hb_4.size
            have HB4 : Hid (Below w.heap.size w w4) := HB3.out.trans (hb_4.mono HB3.out.size)
            have HR2 := Lib.hid hr2
            clear hr2 hb_4 hz_4
            go_wp2_with fail; ((with_reducible refine (HST.out w4 B2 d2 _ HRc.out HR2.out HPT.out).mono ?_); rintro e w5 ⟨rfl, hb_5⟩); have hz_5 := hb_5.size; (try simp only [World.size_alloc, World.size_setCell, World.size_drew] at hz_5)
            have HRd : Hid (Reads 2 r2C w5 w5.heap.size A xs) := (HRc.out.below hb_5 (Nat.le_refl _)).more hb_5.size
            have HB5 : Hid (Below w.heap.size w w5) := HB4.out.trans (hb_5.mono HB4.out.size)
            clear hb_5 hz_5 HRc HR2 HB4 HRb HB3
            by_cases h1 : S < T
            · have HK := Lib.hid (slBest_take (HBT.out.2 (.inl h1)))
              go_wp2_with fail
              all_goals try (exfalso; omega; done)
              exact ⟨⟨s + 1, s, by go_num, by omega, rfl, by omega, by omega, HK.out, HB5⟩, by simp [intOf]; omega⟩
            · have h1' : decide (S < T) = false := by simp; omega
              go_wp2_with fail; ((with_reducible refine (set_ret hb256 w5).mono ?_); rintro e w6 ⟨B3, d3, rfl, hr3, hb_6⟩); have hz_6 := hb_6.size; (try simp only [World.size_alloc, World.size_setCell, World.size_drew] at hz_6)
              have HRe : Hid (Reads 2 r2C w6 w6.heap.size A xs) := (HRd.out.below hb_6 (Nat.le_refl _)).more hb_6.size
              have HB6 : Hid (Below w.heap.size w w6) := HB5.out.trans (hb_6.mono HB5.out.size)
              have HR3 := Lib.hid hr3
              clear hr3 hb_6 hz_6
              go_wp2_with fail; ((with_reducible refine (HST.out w6 B3 d3 _ HRe.out HR3.out HPT.out).mono ?_); rintro e w7 ⟨rfl, hb_7⟩); have hz_7 := hb_7.size; (try simp only [World.size_alloc, World.size_setCell, World.size_drew] at hz_7)
              have HB7 : Hid (Below w.heap.size w w7) := HB6.out.trans (hb_7.mono HB6.out.size)
              clear hb_7 hz_7 HRe HR3 HB6 HRd HB5
              by_cases h2 : S = T
              · have h2' : (S == T) = true := by simp [h2]
                go_wp2_with fail; ((with_reducible refine (set_ret hs256 w7).mono ?_); rintro e w8 ⟨B4, d4, rfl, hr4, hb_8⟩); have hz_8 := hb_8.size; (try simp only [World.size_alloc, World.size_setCell, World.size_drew] at hz_8)
                have HB8 : Hid (Below w.heap.size w w8) := HB7.out.trans (hb_8.mono HB7.out.size)
                clear hr4 hb_8 hz_8 HB7
                go_wp2_with fail; ((with_reducible refine (set_ret hb256 w8).mono ?_); rintro e w9 ⟨B5, d5, rfl, hr5, hb_9⟩); have hz_9 := hb_9.size; (try simp only [World.size_alloc, World.size_setCell, World.size_drew] at hz_9)
                have HB9 : Hid (Below w.heap.size w w9) := HB8.out.trans (hb_9.mono HB8.out.size)
                clear hr5 hb_9 hz_9 HB8
                by_cases h3 : popN s < popN b
                · have HK := Lib.hid (slBest_take (HBT.out.2 (.inr ⟨h2, h3⟩)))
                  have h3' : ((popN s : Nat) : Int) < ((popN b : Nat) : Int) := by omega
                  clear h2 h1
                  go_wp2_with fail
                  all_goals try (exfalso; omega; done)
                  exact ⟨⟨s + 1, s, by go_num, by omega, rfl, by omega, by omega, HK.out, HB9⟩, by simp [intOf]; omega⟩
                · have HK := Lib.hid (slBest_keep (fun h => by have := HBT.out.1 h; omega))
                  have h3' : ((popN b : Nat) : Int) ≤ ((popN s : Nat) : Int) := by omega
                  have h3'' : decide (((popN s : Nat) : Int) < ((popN b : Nat) : Int)) = false := by simp; omega
                  clear h2 h1
                  go_wp2_with fail
                  all_goals try (exfalso; omega; done)
                  exact ⟨⟨s + 1, b, by go_num, by omega, rfl, by omega, by omega, HK.out.trans HBE.out, HB9⟩, by simp [intOf]; omega⟩
              · have h2' : (S == T) = false := by simp [h2]
                have HK := Lib.hid (slBest_keep (fun h => by have := HBT.out.1 h; omega))
                clear h2 h1
                go_wp2_with fail
                all_goals try (exfalso; omega; done)
                exact ⟨⟨s + 1, b, by go_num, by omega, rfl, by omega, by omega, HK.out.trans HBE.out, HB7⟩, by simp [intOf]; omega⟩
      · obtain rfl : s = NN := by omega
        by_cases hb0 : be < 0
        · have ho : slO xs need = none := slO_none (by rw [HNN.out, HBE.out]; exact hb0)
          rw [ho]
          go_wp2_with fail
          refine bodyPost_ret (by simp [results, Tryd.results17, go_sem]; try rfl) rfl ?_
          rw [ho]
          exact ⟨_, rfl, Res.empty rfl rfl, HB.out.alloc HB.out.size _⟩
        · obtain ⟨b, rfl⟩ : ∃ b : Nat, be = b := ⟨be.toNat, by omega⟩
          have ho : slO xs need = some (setIdx b) := slO_some HP.out (by rw [HNN.out]; exact HBE.out)
          go_wp2_with fail
          refine (l19Set_any b (by omega) wr).mono ?_
          rintro e w2 ⟨v, rfl, hr, hb⟩
          have HRR := Lib.hid (hr.mono HB.out.size)
          have HB2 : Hid (Below w.heap.size w w2) := HB.out.trans (hb.mono HB.out.size)
          clear hr hb
          go_wp2_with fail
          refine bodyPost_ret (by simp [results, Tryd.results17, go_sem]; try rfl) rfl ?_
          rw [ho]
          exact ⟨_, rfl, HRR.out, HB2.out⟩
  · have hv := blksV_f.2 hp
    rw [slO_bad hp]
    clear hp
    go_enter Tryd.func17, Tryd.ntmps17
    go_wp2_with fail; ((with_reducible refine (specBlocksValid_any A c xs w HR.out hl).mono ?_); rintro e w1 ⟨rfl, hb_1⟩); have hz_1 := hb_1.size; (try simp only [World.size_alloc, World.size_setCell, World.size_drew] at hz_1)
    go_wp2_with fail
    refine bodyPost_ret (by simp [results, Tryd.results17, go_sem]; try rfl) rfl ?_
    exact ⟨_, rfl, Res.empty rfl rfl, by (repeat' (first | (with_reducible exact Below.refl _ _) | (with_reducible refine Below.alloc ?_ ?_ _) | (with_reducible refine Below.setCell ?_ ?_ _) | (with_reducible refine Below.drew ?_) | (refine Below.trans ?_ (Below.mono (by with_reducible assumption) ?_)) | go_size))⟩
end Go.Proofs.YtecekhjlapaofaaDoor
