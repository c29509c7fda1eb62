/- impl.ShedLeast. -/
import Derived.Test.YtecekhjlapaofaaDoorShI
import Derived.Test.YtecekhjlapaofaaDoorShM
namespace Go.Proofs.YtecekhjlapaofaaDoor
open Go.RowKit Go.Deep
set_option linter.unusedSimpArgs false
set_option linter.unusedVariables false
theorem bit_and1 (s k : Nat) (hs : s < 256) : (bits BinOp.and IntKind.i64 ((s : Int) / 2 ^ k) 1 == 1) = bitN s k := by
  have e : (s : Int) / 2 ^ k = ((s / 2 ^ k : Nat) : Int) := by push_cast; rfl
  rw [e, i64_and1 _ (Nat.lt_of_le_of_lt (Nat.div_le_self _ _) (by omega))]
  unfold bitN
  generalize s / 2 ^ k = q
  rcases Nat.mod_two_eq_zero_or_one q with h | h <;> simp [h]
theorem cvU (s : Nat) (hs : s < 256) : IntKind.u64.wrap (s : Int) = (s : Int) := by rw [wrapU]; omega
set_option maxRecDepth 100000 in
set_option maxHeartbeats 8000000 in
theorem implShedLeast_any (A : Option Addr) (c : Nat) (xs : List R2) (need : Int) (w : World) (hT : TabOk w) (hR : Reads 2 r2C w w.heap.size A xs) (hl : xs.length ≤ 1048576) :
    Calls Tryd.prog 19 #[.slice A xs.length c, .int .i64 need] w (RetP 1 intC 3 w ((slO xs need).getD []) (slO xs need).isSome) := by
  have HR := Lib.hid hR; clear hR
  have HT := Lib.hid hT; clear hT
  by_cases hp : BlksP xs
  · have hv := blksV_t.2 hp
    have h8 := hp.1
    have HP := Lib.hid hp; clear hp
    have hpw := pow_bd8 h8
    generalize hNN : 2 ^ xs.length = NN at hpw
    have hNI : (2 : Int) ^ xs.length = (NN : Int) := by rw [← hNN]; push_cast; rfl
    obtain ⟨hp1, hp2⟩ := hpw
    have HNN := Lib.hid hNN; clear hNN
    go_enter Tryd.func19, Tryd.ntmps19
    go_wp2_with fail; ((with_reducible refine (implBlocksValid_any A c xs w HR.out hl).mono ?_); rintro e w1 ⟨rfl, hb_1⟩); have hz_1 := hb_1.size; (try simp only [World.size_alloc, World.size_setCell, World.size_drew] at hz_1)
    have HB1 : Hid (Below w.heap.size w w1) := by unfold Hid; (repeat' (first | (with_reducible exact Below.refl _ _) | (with_reducible refine Below.alloc ?_ ?_ _) | (with_reducible refine Below.setCell ?_ ?_ _) | (with_reducible refine Below.drew ?_) | (refine Below.trans ?_ (Below.mono (by with_reducible assumption) ?_)) | go_size))
    clear hb_1 hz_1
    go_wp2_with fail
    go_loopw [6, 7, 18] (fun t6 t7 t18 wr => ∃ (s : Nat) (be le : Int), t18 = .int .i64 s ∧ s ≤ NN ∧ t6 = .int .i64 be ∧ t7 = .int .i64 le ∧ -1 ≤ be ∧ be < NN ∧ Hid (slBest xs need s = be) ∧ Hid (0 ≤ be → le = setSum xs be.toNat xs.length) ∧ Hid (Below w.heap.size w wr)) (fun _ _ t18 _ => NN - (intOf t18).toNat)
    case atStart => exact ⟨0, -1, 0, rfl, Nat.zero_le _, rfl, rfl, by omega, by omega, rfl, fun h => by omega, HB1⟩
    case round =>
      obtain ⟨s, be, le, rfl, hs, rfl, rfl, hbe0, hbe1, HBE, HLE, HB⟩ := hrel
      clear HB1
      by_cases hlt : s < NN
      · have hlt' : s < 2 ^ xs.length := by rw [HNN.out]; exact hlt
        have hs256 : s < 256 := by omega
        go_wp2_with fail
        go_loopw [9, 23] (fun t9 t23 wr => ∃ (k : Nat) (to : Int), t23 = .int .i64 k ∧ k ≤ xs.length ∧ t9 = .int .i64 to ∧ Hid (setSum xs s k = to) ∧ Hid (Below w.heap.size w wr)) (fun _ t23 _ => xs.length - (intOf t23).toNat)
        case atStart => exact ⟨0, 0, rfl, Nat.zero_le _, rfl, rfl, HB⟩
        case round =>
          obtain ⟨k, to, rfl, hk, rfl, HTO, HBr⟩ := hrel
          clear HB
          have hbd := setSum_bd HP.out s hk
          rw [HTO.out] at hbd
          obtain ⟨hbd0, hbd1⟩ := hbd
          by_cases hkl : k < xs.length
          · obtain ⟨b, off, rfl, hb, hx0, hx1⟩ := HR.out.at2 hkl
            have hx0 := (HBr.out.cell (p := ⟨b, off + k * 2, none⟩) hb).trans hx0
            have hx1 := (HBr.out.cell (p := ⟨b, off + k * 2 + 1, none⟩) hb).trans hx1
            have hbw : b < wr.heap.size := Nat.lt_of_lt_of_le hb HBr.out.size
            have hsz := sizeAt_bd HP.out hkl
            have hse : sizeAt xs k = xs[k].a := by unfold sizeAt; rw [List.getD_eq_getElem?_getD, List.getElem?_eq_getElem hkl]; rfl
            rw [hse] at hsz
            have hst : setSum xs s (k + 1) = setSum xs s k + (if bitN s k = true then sizeAt xs k else 0) := rfl
            rw [hse, HTO.out] at hst
            have HST := Lib.hid hst; clear hst hse
            generalize xs[k] = x at hx0 hx1 hsz HST
            obtain ⟨hsz0, hsz1⟩ := hsz
            have hbt := bit_and1 s k hs256
            have hzw := HBr.out.size
            have HB2 : Hid (Below w.heap.size w (wr.alloc (.cells #[.int .i64 x.a, .int .i64 x.b] 33))) := HBr.out.alloc hzw _
            cases hbk : bitN s k with
            | true =>
              rw [hbk] at hbt HST
              have HST2 : Hid (setSum xs s (k + 1) = to + x.a) := by unfold Hid; have := HST.out; simpa using this
              have hw : IntKind.i64.wrap (to + x.a) = to + x.a := IntWalk.i64_in _ (by omega)
              clear hbk HST
              go_wp2_with fail
              exact ⟨⟨k + 1, to + x.a, by go_num, by omega, rfl, HST2, HB2⟩, by simp [intOf]; omega⟩
            | false =>
              rw [hbk] at hbt HST
              have HST2 : Hid (setSum xs s (k + 1) = to) := by unfold Hid; have := HST.out; simpa using this
              clear hbk HST
              go_wp2_with fail
              exact ⟨⟨k + 1, to, by go_num, by omega, rfl, HST2, HB2⟩, by simp [intOf]; omega⟩
          · obtain rfl : k = xs.length := by omega
            have hpo := pop_le8 s
            have HPS := Lib.hid (pop_set s hs256).symm
            have hcs := cvU s hs256
            have HOC := Lib.hid (fun W => onesCount_any s hs256 W)
            by_cases hne : to < need
            · have HK := Lib.hid (slBest_keep (xs := xs) (need := need) (s := s) (fun h => by have := h.1; have := HTO.out; omega))
              have hne' : decide (need ≤ to) = false := by simp; omega
              go_wp2_with fail
              all_goals try (exfalso; omega; done)
              exact ⟨⟨s + 1, be, le, by go_num, by omega, rfl, rfl, hbe0, hbe1, HK.out.trans HBE.out, HLE, HBr⟩, by simp [intOf]; omega⟩
            · have hnee : need ≤ to := by omega
              by_cases hb0 : be < 0
              · have HK := Lib.hid (slBest_take (xs := xs) (need := need) (s := s) ⟨by have := HTO.out; omega, .inl (by have := HBE.out; omega)⟩)
                have HL2 : Hid (0 ≤ (s : Int) → to = setSum xs ((s : Int)).toNat xs.length) := fun _ => by rw [Int.toNat_natCast]; exact HTO.out.symm
                go_wp2_with fail
                all_goals try (exfalso; omega; done)
                exact ⟨⟨s + 1, s, to, by go_num, by omega, rfl, rfl, by omega, by omega, HK.out, HL2, HBr⟩, by simp [intOf]; omega⟩
              · obtain ⟨b, rfl⟩ : ∃ b : Nat, be = b := ⟨be.toNat, by omega⟩
                have hb256 : b < 256 := by omega
                have hle : setSum xs b xs.length = le := by have := HLE.out (by omega); rw [Int.toNat_natCast] at this; exact this.symm
                have hle2 := setSum_bd HP.out b (k := xs.length) (Nat.le_refl _)
                rw [hle] at hle2
                have HLV := Lib.hid hle; clear hle
                have hbet : slBetter xs need s (slBest xs need s) ↔ (to < le ∨ (to = le ∧ popN s < popN b)) := by
                  rw [HBE.out]
                  unfold slBetter
                  rw [Int.toNat_natCast, HTO.out, HLV.out, HPS.out, (pop_set b hb256).symm]
                  constructor
                  · rintro ⟨_, h | h | h⟩
                    · omega
                    · exact .inl h
                    · exact .inr h
                  · intro h; exact ⟨by omega, .inr h⟩
                have HBT := Lib.hid hbet; clear hbet
                have hb0' : decide ((b : Int) < 0) = false := by simp
                have hb0'' : ¬ ((b : Int) < 0) := hb0
                have HL2 : Hid (0 ≤ (s : Int) → to = setSum xs ((s : Int)).toNat xs.length) := fun _ => by rw [Int.toNat_natCast]; exact HTO.out.symm
                have hcb := cvU b hb256
                have hpo2 := pop_le8 b
                have HOB := Lib.hid (fun W => onesCount_any b hb256 W)
                rcases Int.lt_trichotomy to le with h1 | h1 | h1
                · have HK := Lib.hid (slBest_take (HBT.out.2 (.inl h1)))
                  go_wp2_with fail
                  all_goals try (exfalso; omega; done)
                  exact ⟨⟨s + 1, s, to, by go_num, by omega, rfl, rfl, by omega, by omega, HK.out, HL2, HBr⟩, by simp [intOf]; omega⟩
                · have hd1 : decide (to < le) = false := by simp; omega
                  have hd2 : (to == le) = true := by simp [h1]
                  have hd3 : ¬ to < le := by omega
                  by_cases h3 : popN s < popN b
                  · have HK := Lib.hid (slBest_take (HBT.out.2 (.inr ⟨h1, h3⟩)))
                    have h3' : ((popN s : Nat) : Int) < ((popN b : Nat) : Int) := by omega
                    clear h1
                    go_wp2_with fail
                    refine (HOC.out wr).mono ?_
                    rintro e w2 ⟨rfl, rfl⟩
                    go_wp2_with fail
                    refine (HOB.out wr).mono ?_
                    rintro e w2 ⟨rfl, rfl⟩
                    go_wp2_with fail
                    all_goals try (exfalso; omega; done)
                    exact ⟨⟨s + 1, s, to, by go_num, by omega, rfl, rfl, by omega, by omega, HK.out, HL2, HBr⟩, by simp [intOf]; omega⟩
                  · have HK := Lib.hid (slBest_keep (fun h => by have := HBT.out.1 h; omega))
                    have h3' : ((popN b : Nat) : Int) ≤ ((popN s : Nat) : Int) := by omega
                    have h3'' : decide (((popN s : Nat) : Int) < ((popN b : Nat) : Int)) = false := by simp; omega
                    clear h1
                    go_wp2_with fail
                    refine (HOC.out wr).mono ?_
                    rintro e w2 ⟨rfl, rfl⟩
                    go_wp2_with fail
                    refine (HOB.out wr).mono ?_
                    rintro e w2 ⟨rfl, rfl⟩
                    go_wp2_with fail
                    all_goals try (exfalso; omega; done)
                    exact ⟨⟨s + 1, b, le, by go_num, by omega, rfl, rfl, by omega, by omega, HK.out.trans HBE.out, HLE, HBr⟩, by simp [intOf]; omega⟩
                · have hd1 : decide (to < le) = false := by simp; omega
                  have hd2 : (to == le) = false := by rw [beq_eq_false_iff_ne]; omega
                  have HK := Lib.hid (slBest_keep (fun h => by have := HBT.out.1 h; omega))
                  go_wp2_with fail
                  all_goals try (exfalso; omega; done)
                  exact ⟨⟨s + 1, b, le, by go_num, by omega, rfl, rfl, by omega, by omega, HK.out.trans HBE.out, HLE, HBr⟩, by simp [intOf]; omega⟩
      · obtain rfl : s = NN := by omega
        by_cases hb0 : be < 0
        · have ho : slO xs need = none := slO_none (by rw [HNN.out, HBE.out]; exact hb0)
          go_wp2_with fail
          refine bodyPost_ret (by simp [results, Tryd.results19, go_sem]; try rfl) rfl ?_
          rw [ho]
          exact ⟨_, rfl, Res.empty rfl rfl, HB.out⟩
        · obtain ⟨b, rfl⟩ : ∃ b : Nat, be = b := ⟨be.toNat, by omega⟩
          have ho : slO xs need = some (setIdx b) := slO_some HP.out (by rw [HNN.out]; exact HBE.out)
          go_wp2_with fail
          refine (indicesOf_any b (by omega) wr (HT.out.keep HB.out)).mono ?_
          rintro e w2 ⟨v, rfl, hr, hb⟩
          have HRR := Lib.hid (hr.mono HB.out.size)
          have HB2 : Hid (Below w.heap.size w w2) := HB.out.trans (hb.mono HB.out.size)
          clear hr hb
          go_wp2_with fail
          refine bodyPost_ret (by simp [results, Tryd.results19, go_sem]; try rfl) rfl ?_
          rw [ho]
          exact ⟨_, rfl, HRR.out, HB2.out⟩
  · have hv := blksV_f.2 hp
    rw [slO_bad hp]
    clear hp
    go_enter Tryd.func19, Tryd.ntmps19
    go_wp2_with fail; ((with_reducible refine (implBlocksValid_any A c xs w HR.out hl).mono ?_); rintro e w1 ⟨rfl, hb_1⟩); have hz_1 := hb_1.size; (try simp only [World.size_alloc, World.size_setCell, World.size_drew] at hz_1)
    go_wp2_with fail
    refine bodyPost_ret (by simp [results, Tryd.results19, go_sem]; try rfl) rfl ?_
    exact ⟨_, rfl, Res.empty rfl rfl, by (repeat' (first | (with_reducible exact Below.refl _ _) | (with_reducible refine Below.alloc ?_ ?_ _) | (with_reducible refine Below.setCell ?_ ?_ _) | (with_reducible refine Below.drew ?_) | (refine Below.trans ?_ (Below.mono (by with_reducible assumption) ?_)) | go_size))⟩
end Go.Proofs.YtecekhjlapaofaaDoor
