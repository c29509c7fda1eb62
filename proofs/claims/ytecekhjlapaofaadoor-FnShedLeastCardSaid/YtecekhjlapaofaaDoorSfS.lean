/- spec.ShedFirst. -/
import Derived.Test.YtecekhjlapaofaaDoorSfP
import Derived.Test.YtecekhjlapaofaaDoorShM
namespace Go.Proofs.YtecekhjlapaofaaDoor
open Go.RowKit Go.Deep
set_option linter.unusedSimpArgs false
set_option linter.unusedVariables false
theorem len_sumP : ∀ l : List Nat, l.length ≤ sumP l
  | [] => Nat.le_refl _
  | k :: l => by
    have := len_sumP l
    have := Nat.one_le_two_pow (n := k)
    simp only [sumP, List.length_cons]; omega
theorem sf_bd {xs : List R2} (h : BlksP xs) (need : Int) : ∀ (l : List Nat) (s : Int × Nat), (∀ k ∈ l, k < xs.length) → s.1 ≤ (l.foldl (sfStep xs need) s).1 ∧ (l.foldl (sfStep xs need) s).1 ≤ s.1 + 999 * l.length ∧ (l.foldl (sfStep xs need) s).2 ≤ s.2 + sumP l
  | [], s, _ => by simp [sumP]
  | k :: l, s, hl => by
    have hk := sizeAt_bd h (hl k (by simp))
    have ih := sf_bd h need l (sfStep xs need s k) (fun j hj => hl j (by simp [hj]))
    rw [List.foldl_cons]
    unfold sfStep at ih ⊢
    simp only [sumP, List.length_cons]
    generalize 2 ^ k = P at *
    split at ih
    · rename_i hc
      rw [if_pos hc]
      simp only at ih ⊢
      push_cast; omega
    · rename_i hc
      rw [if_neg hc]
      push_cast; omega
def pre (xs : List R2) (r k : Nat) : List Nat := byRank xs r ++ (List.range k).filter fun q => decide (rankAt xs q = (r : Int))
theorem pre_zero (xs : List R2) (r : Nat) : pre xs r 0 = byRank xs r := by simp [pre]
theorem pre_full (xs : List R2) (r : Nat) : pre xs r xs.length = byRank xs (r + 1) := (byRank_succ xs r).symm
theorem pre_succ (xs : List R2) (r k : Nat) : pre xs r (k + 1) = pre xs r k ++ (if rankAt xs k = (r : Int) then [k] else []) := by
  unfold pre
  rw [List.range_succ, List.filter_append, List.append_assoc]
  congr 2
  by_cases h : rankAt xs k = (r : Int) <;> simp [h]
theorem pre_sub (xs : List R2) (r k : Nat) (hk : k ≤ xs.length) : (pre xs r k).Sublist (byRank xs (r + 1)) := by
  rw [← pre_full]
  unfold pre
  refine List.Sublist.append (List.Sublist.refl _) ?_
  refine List.Sublist.filter _ ?_
  exact (List.range_sublist.2 hk)
theorem pre_bd {xs : List R2} (h : BlksP xs) (need : Int) (r k : Nat) (hk : k ≤ xs.length) : 0 ≤ (sfRun xs need (pre xs r k)).1 ∧ (sfRun xs need (pre xs r k)).1 ≤ 300000 ∧ (sfRun xs need (pre xs r k)).2 < 256 := by
  have hs := pre_sub xs r k hk
  have hnd := hs.nodup (nodup_of_sorted (byRank_sorted xs (r + 1)))
  have hm : ∀ q ∈ pre xs r k, q < xs.length := fun q hq => (byRank_mem.1 (hs.subset hq)).1
  have hp := sumP_256 hnd (fun q hq => Nat.lt_of_lt_of_le (hm q hq) h.1) (n := 8) (fun q hq => Nat.lt_of_lt_of_le (hm q hq) h.1)
  have hl := len_sumP (pre xs r k)
  have := sf_bd h need (pre xs r k) (0, 0) hm
  unfold sfRun
  simp only at this
  omega
set_option maxRecDepth 100000 in
set_option maxHeartbeats 8000000 in
theorem specShedFirst_any (A : Option Addr) (c : Nat) (xs : List R2) (need : Int) (w : World) (hR : Reads 2 r2C w w.heap.size A xs) (hl : xs.length ≤ 1048576) :
    Calls Tryd.prog 10 #[.slice A xs.length c, .int .i64 need] w (RetP 1 intC 3 w ((sfO xs need).getD []) (sfO xs need).isSome) := by
  have HR := Lib.hid hR; clear hR
  by_cases hp : BlksP xs
  · have hv := blksV_t.2 hp
    have h8 := hp.1
    have HP := Lib.hid hp; clear hp
    go_enter Tryd.func10, Tryd.ntmps10
    go_wp2_with fail; ((with_reducible refine (specBlocksValid_any A c xs w HR.out hl).mono ?_); rintro e w1 ⟨rfl, hb_1⟩); have hz_1 := hb_1.size; (try simp only [World.size_alloc, World.size_setCell, World.size_drew] at hz_1)
    have HB1 : Hid (Below w.heap.size w w1) := by unfold Hid; (repeat' (first | (with_reducible exact Below.refl _ _) | (with_reducible refine Below.alloc ?_ ?_ _) | (with_reducible refine Below.setCell ?_ ?_ _) | (with_reducible refine Below.drew ?_) | (refine Below.trans ?_ (Below.mono (by with_reducible assumption) ?_)) | go_size))
    clear hb_1 hz_1
    go_wp2_with fail
    go_loopw [6, 7, 8] (fun t6 t7 t8 wr => ∃ (r : Nat) (T : Int) (N : Nat), t8 = .int .i64 r ∧ r ≤ 10 ∧ t7 = .int .i64 T ∧ t6 = .int .i64 N ∧ Hid (sfRun xs need (byRank xs r) = (T, N)) ∧ Hid (Below w.heap.size w wr)) (fun _ _ t8 _ => 10 - (intOf t8).toNat)
    case atStart => exact ⟨0, 0, 0, rfl, Nat.zero_le _, rfl, rfl, rfl, HB1⟩
    case round =>
      obtain ⟨r, T, N, rfl, hr, rfl, rfl, HS, HB⟩ := hrel
      clear HB1
      by_cases hlt : r < 10
      · have hr9 : (r : Int) ≤ 9 := by omega
        have HS0 : Hid (sfRun xs need (pre xs r 0) = (T, N)) := by unfold Hid; rw [pre_zero]; exact HS.out
        go_wp2_with fail
        go_loopw [6, 7, 9] (fun t6 t7 t9 wr => ∃ (k : Nat) (T : Int) (N : Nat), t9 = .int .i64 k ∧ k ≤ xs.length ∧ t7 = .int .i64 T ∧ t6 = .int .i64 N ∧ Hid (sfRun xs need (pre xs r k) = (T, N)) ∧ Hid (Below w.heap.size w wr)) (fun _ _ t9 _ => xs.length - (intOf t9).toNat)
        case atStart => exact ⟨0, T, N, rfl, Nat.zero_le _, rfl, rfl, HS0, HB⟩
        case round =>
          obtain ⟨k, T2, N2, rfl, hk, rfl, rfl, HK, HBr⟩ := hrel
          clear HS0 HS HB
          by_cases hkl : k < xs.length
          · obtain ⟨b, off, rfl, hb, hx0, hx1⟩ := HR.out.at2 hkl
            have hx0 := (HBr.out.cell (p := ⟨b, off + k * 2, none⟩) hb).trans hx0
            have hx1 := (HBr.out.cell (p := ⟨b, off + k * 2 + 1, none⟩) hb).trans hx1
            have hbd := pre_bd HP.out need r k (by omega)
            rw [HK.out] at hbd
            obtain ⟨hbd0, hbd1, hbd2⟩ := hbd
            simp only at hbd0 hbd1 hbd2
            have hsz := sizeAt_bd HP.out hkl
            have hse : sizeAt xs k = xs[k].a := by unfold sizeAt; rw [List.getD_eq_getElem?_getD, List.getElem?_eq_getElem hkl]; rfl
            have hre : rankAt xs k = xs[k].b := by unfold rankAt; rw [List.getD_eq_getElem?_getD, List.getElem?_eq_getElem hkl]; rfl
            have hst := pre_succ xs r k
            rw [hre] at hst
            rw [hse] at hsz
            have hstep : sfStep xs need (T2, N2) k = if T2 < need then (T2 + xs[k].a, N2 + 2 ^ k) else (T2, N2) := by unfold sfStep; rw [hse]
            have HST := Lib.hid hst; have HSP := Lib.hid hstep; clear hst hstep hse hre
            generalize xs[k] = x at hx0 hx1 hsz HST HSP
            obtain ⟨hsz0, hsz1⟩ := hsz
            have hk1 : (k : Int) < (xs.length : Int) := by omega
            by_cases hrk : x.b = (r : Int)
            · have e1 : (x.b == (r : Int)) = true := by simp [hrk]
              by_cases hne : T2 < need
              · have hpw : 2 ^ k ≤ 256 := by
                  have : 2 ^ k ≤ 2 ^ 8 := Nat.pow_le_pow_right (by omega) (by omega)
                  simpa using this
                have HN2 : Hid (sfRun xs need (pre xs r (k + 1)) = (T2 + x.a, N2 + 2 ^ k)) := by
                  unfold Hid; rw [HST.out, if_pos hrk, sfRun_snoc, HK.out, HSP.out, if_pos hne]
                have hNI : (2 : Int) ^ k = ((2 ^ k : Nat) : Int) := by push_cast; rfl
                generalize 2 ^ k = P at hpw hNI HN2
                have hw1 : IntKind.i64.wrap (T2 + x.a) = T2 + x.a := IntWalk.i64_in _ (by omega)
                have hw2 : IntKind.i64.wrap ((N2 : Int) + (P : Int)) = (N2 : Int) + (P : Int) := IntWalk.i64_in _ (by omega)
                clear hrk
                go_wp2_with fail
                all_goals try (exfalso; omega; done)
                exact ⟨⟨k + 1, T2 + x.a, N2 + P, by go_num, by omega, rfl, by go_num, HN2, HBr⟩, by simp [intOf]; omega⟩
              · have HN2 : Hid (sfRun xs need (pre xs r (k + 1)) = (T2, N2)) := by
                  unfold Hid; rw [HST.out, if_pos hrk, sfRun_snoc, HK.out, HSP.out, if_neg hne]
                have hne' : decide (T2 < need) = false := by simp; omega
                clear hrk
                go_wp2_with fail
                all_goals try (exfalso; omega; done)
                exact ⟨⟨k + 1, T2, N2, by go_num, by omega, rfl, rfl, HN2, HBr⟩, by simp [intOf]; omega⟩
            · have e1 : (x.b == (r : Int)) = false := by simp [hrk]
              have HN2 : Hid (sfRun xs need (pre xs r (k + 1)) = (T2, N2)) := by
                unfold Hid; rw [HST.out, if_neg hrk, List.append_nil, HK.out]
              clear hrk
              go_wp2_with fail
              all_goals try (exfalso; omega; done)
              exact ⟨⟨k + 1, T2, N2, by go_num, by omega, rfl, rfl, HN2, HBr⟩, by simp [intOf]; omega⟩
          · obtain rfl : k = xs.length := by omega
            have HS2 : Hid (sfRun xs need (byRank xs (r + 1)) = (T2, N2)) := by unfold Hid; rw [← pre_full]; exact HK.out
            go_wp2_with fail
            exact ⟨⟨r + 1, T2, N2, by go_num, by omega, rfl, rfl, HS2, HBr⟩, by simp [intOf]; omega⟩
      · obtain rfl : r = 10 := by omega
        have href := sf_ref HP.out need
        rw [HS.out] at href
        cases hm : takeNeed xs need 0 (ordB xs) with
        | none =>
          rw [hm] at href
          simp only at href
          have ho : sfO xs need = none := by unfold sfO; rw [if_pos HP.out, hm]; rfl
          clear hm
          go_wp2_with fail
          refine bodyPost_ret (by simp [results, Tryd.results10, go_sem]; try rfl) rfl ?_
          rw [ho]
          exact ⟨_, rfl, Res.empty rfl rfl, HB.out.alloc HB.out.size _⟩
        | some m =>
          rw [hm] at href
          simp only at href
          obtain ⟨hge, hset, hlt2, -⟩ := href
          have ho : sfO xs need = some (setIdx N) := by unfold sfO; rw [if_pos HP.out, hm, hset]; rfl
          have hpw8 := (pow_bd8 h8).2
          have hn256 : N < 256 := by omega
          clear hm hset hpw8 hlt2
          have hnl : ¬ T < need := by omega
          go_wp2_with fail
          refine (l19Set_any N hn256 wr).mono ?_
          rintro e w2 ⟨v, rfl, hr2, hb⟩
          have HRR := Lib.hid (hr2.mono HB.out.size)
          have HB2 : Hid (Below w.heap.size w w2) := HB.out.trans (hb.mono HB.out.size)
          clear hr2 hb
          go_wp2_with fail
          refine bodyPost_ret (by simp [results, Tryd.results10, go_sem]; try rfl) rfl ?_
          rw [ho]
          exact ⟨_, rfl, HRR.out, HB2.out⟩
  · have hv := blksV_f.2 hp
    have ho : sfO xs need = none := by unfold sfO; rw [if_neg hp]
    rw [ho]
    clear hp
    go_enter Tryd.func10, Tryd.ntmps10
    go_wp2_with fail; ((with_reducible refine (specBlocksValid_any A c xs w HR.out hl).mono ?_); rintro e w1 ⟨rfl, hb_1⟩); have hz_1 := hb_1.size; (try simp only [World.size_alloc, World.size_setCell, World.size_drew] at hz_1)
    go_wp2_with fail
    refine bodyPost_ret (by simp [results, Tryd.results10, go_sem]; try rfl) rfl ?_
    exact ⟨_, rfl, Res.empty rfl rfl, by (repeat' (first | (with_reducible exact Below.refl _ _) | (with_reducible refine Below.alloc ?_ ?_ _) | (with_reducible refine Below.setCell ?_ ?_ _) | (with_reducible refine Below.drew ?_) | (refine Below.trans ?_ (Below.mono (by with_reducible assumption) ?_)) | go_size))⟩
end Go.Proofs.YtecekhjlapaofaaDoor
