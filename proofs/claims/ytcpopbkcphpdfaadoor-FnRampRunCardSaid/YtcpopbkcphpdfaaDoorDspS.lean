/- Dispatch: the reference's. -/
import Derived.Test.YtcpopbkcphpdfaaDoorDsp
namespace Go.Proofs.YtcpopbkcphpdfaaDoor
open Go.RowKit Go.Deep
set_option linter.unusedSimpArgs false
set_option linter.unusedVariables false

/-- One int of a slice of the call's own is written. -/
theorem Res.upd1 {T : TypeId} {w : World} {B : Nat} {v : Value} {ys : List Int} (h : Res 1 intC T w B v ys) {k : Nat} (hk : k < ys.length) :
    ∃ g cp, v = .slice (some ⟨g, 0, none⟩) ys.length cp ∧ B ≤ g ∧ g < w.heap.size ∧ w.cell? ⟨g, k, none⟩ = some (.int .i64 ys[k]) ∧ (∀ i, w.frozen? ⟨g, i, none⟩ = false) ∧ ∀ x, Res 1 intC T (w.setCell ⟨g, k, none⟩ (.int .i64 x)) B v (ys.set k x) := by
  obtain ⟨A, cp, rfl, h⟩ := h
  rcases h with h | ⟨g, m, f, rfl, hB, hr, hm, hf⟩
  · rw [h] at hk; simp at hk
  · refine ⟨g, cp, rfl, hB, hr.lt, ?_, hr.frozen, fun x => ?_⟩
    · rw [hr.cell (by omega)]
      have := hf k _ (List.getElem?_eq_getElem hk) 0 (by omega)
      rw [Nat.mul_one, Nat.add_zero] at this
      rw [this]; rfl
    · refine Res.of_row hB (hr.set k _) (by simp) (by simpa using hm) (fun i y hy j hj => ?_)
      obtain rfl : j = 0 := by omega
      rw [Nat.mul_one, Nat.add_zero]
      rw [List.getElem?_set] at hy
      by_cases e : i = k
      · rw [if_pos e]
        rw [if_pos e.symm] at hy
        simp [e, hk] at hy
        subst hy; rfl
      · rw [if_neg e]
        rw [if_neg (fun h => e h.symm)] at hy
        have := hf i y hy 0 (by omega)
        rwa [Nat.mul_one, Nat.add_zero] at this
theorem wrap_in (z : Int) : I64 (IntKind.i64.wrap z) := by rw [IntKind.wrap_i64]; unfold I64; omega
theorem wrap_sub (L s a : Int) : IntKind.i64.wrap (IntKind.i64.wrap (L - s) - a) = IntKind.i64.wrap (L - (s + a)) := by
  rw [IntKind.wrap_i64, IntKind.wrap_i64, IntKind.wrap_i64]; omega
theorem wrap_id {z : Int} (h : I64 z) : IntKind.i64.wrap z = z := by unfold I64 at h; exact IntWalk.i64_in _ (by omega)
/-- What is left of a load when the Leasts are given. -/
theorem wrap_load {L s : Int} (hL : I64 L) (hs0 : 0 ≤ s) (hs : s ≤ 5994) : IntKind.i64.wrap (L - s) = L - s ∨ (IntKind.i64.wrap (L - s) > 1000000 ∧ L < s) := by
  unfold I64 at hL
  rw [IntKind.wrap_i64]; omega
def RetD (w : World) (o : Option (List Int)) (e : Ending) (w' : World) : Prop := RetP 1 intC 3 w (o.getD []) o.isSome e w'
theorem sumI_le_take {xs : List R4} (h : UnisP xs) (i : Nat) : 0 ≤ sumI ((leasts xs).take i) ∧ sumI ((leasts xs).take i) ≤ 5994 := by
  have h1 := sum_bd (m := 999) (ys := (leasts xs).take i) (fun y hy => by
    obtain ⟨x, hx, rfl⟩ := List.mem_map.1 (List.mem_of_mem_take hy); have := h.2 x hx; unfold UniOk at this; omega)
  have h2 : ((leasts xs).take i).length ≤ 6 := by rw [List.length_take, leasts_len]; have := h.1; omega
  omega

set_option maxHeartbeats 4000000 in
theorem specDispatch_any (A : Option Addr) (c : Nat) (xs : List R4) (L : Int) (hL : I64 L) (w : World) (hR : Reads 4 r4C w w.heap.size A xs) (hl : xs.length ≤ 1048576) :
    Calls Tryd.prog 34 #[.slice A xs.length c, .int .i64 L] w (RetD w (dispO xs L)) := by
  have HR := Lib.hid hR; clear hR
  have HRa : Hid (Reads 4 r4C (w.alloc (.cells #[] 3)) (w.alloc (.cells #[] 3)).heap.size A xs) := by
    unfold Hid
    exact (HR.out.below (Below.alloc (Below.refl _ _) (Nat.le_refl _) _) (Nat.le_refl _)).more (by simp)
  by_cases hu : UnisP xs
  · have hv := unisV_t.2 hu
    have HU := Lib.hid hu
    have h6 := hu.1
    clear hu
    go_enter Tryd.func34, Tryd.ntmps34
    go_wp2_with fail; ((with_reducible refine (specUnitsValid_any A c xs _ HRa.out hl).mono ?_); rintro e w1 ⟨rfl, hb_1⟩); have hz_1 := hb_1.size; (try simp only [World.size_alloc, World.size_setCell, World.size_drew] at hz_1)
    have HO : Hid (Own 1 intC 3 w1 w.heap.size (.slice (some ⟨w.heap.size, 0, none⟩) 0 0) []) := by
      unfold Hid
      exact (Own.lit (k := 1) (c := intC) (B := w.heap.size) w 3 #[] 0 [] (Nat.le_refl _) rfl (by omega) rfl).keep hb_1
    have HB1 : Hid (Below w.heap.size w w1) := by unfold Hid; (repeat' (first | (with_reducible exact Below.refl _ _) | (with_reducible refine Below.alloc ?_ ?_ _) | (with_reducible refine Below.setCell ?_ ?_ _) | (with_reducible refine Below.drew ?_) | (refine Below.trans ?_ (Below.mono (by with_reducible assumption) ?_)) | go_size))
    generalize hn : xs.length = n at hl h6 ⊢
    have HN := Lib.hid hn; clear hn
    have hL2 := hL
    unfold I64 at hL2
    obtain ⟨hL3, hL4⟩ := hL2
    have HL := Lib.hid hL; clear hL
    go_wp2_with fail
    go_loopw [1, 6, 7] (fun s t u wr => ∃ (i : Nat) (z : Int), u = .int .i64 i ∧ i ≤ n ∧ s = .int .i64 z ∧ Hid (IntKind.i64.wrap (L - sumI ((leasts xs).take i)) = z) ∧ Hid (Own 1 intC 3 wr w.heap.size t ((leasts xs).take i)) ∧ Hid (Below w.heap.size w wr)) (fun _ _ u _ => n - (intOf u).toNat)
    case atStart =>
      refine ⟨0, L, rfl, Nat.zero_le _, rfl, ?_, ?_, HB1⟩
      · unfold Hid; simp only [List.take_zero, sumI, Int.sub_zero]; exact wrap_id HL.out
      · simpa using HO
    case round =>
      obtain ⟨i, z, rfl, hi, rfl, HZ, HV, HB⟩ := hrel
      clear HO HB1 hb_1 hz_1
      obtain ⟨vA, vc, hvv⟩ := HV.out.slice
      have hvl : ((leasts xs).take i).length = i := by rw [List.length_take, leasts_len, HN.out]; omega
      rw [hvl] at hvv
      have HVL := Lib.hid hvl; clear hvl
      have hzb := wrap_in (L - sumI ((leasts xs).take i))
      rw [HZ.out] at hzb
      unfold I64 at hzb
      obtain ⟨hzb0, hzb1⟩ := hzb
      subst hvv
      by_cases hlt : i < n
      · have hx : i < xs.length := by rw [HN.out]; exact hlt
        obtain ⟨b, off, rfl, hb, hc0, u1, u2, u3⟩ := HR.out.at4 hx
        have hc0 := (HB.out.cell (p := ⟨b, off + i * 4, none⟩) hb).trans hc0
        clear u1 u2 u3
        have hzw := HB.out.size
        have hbw : b < wr.heap.size := Nat.lt_of_lt_of_le hb hzw
        have HT : Hid ((leasts xs).take (i + 1) = (leasts xs).take i ++ [xs[i].a]) := by
          unfold Hid; rw [List.take_succ_eq_append_getElem (by simpa using hx)]; simp [leasts]
        have HW : Hid (IntKind.i64.wrap (z - xs[i].a) = IntKind.i64.wrap (L - sumI ((leasts xs).take (i + 1)))) := by
          unfold Hid; rw [← HZ.out, wrap_sub, HT.out, sumI_append]; simp [sumI]
        have hok := HU.out.2 xs[i] (List.getElem_mem _)
        unfold UniOk at hok
        obtain ⟨ho1, ho2, ho3, _⟩ := hok
        generalize xs[i] = x at hc0 HT HW ho1 ho2 ho3
        have hblk := HV.out.blk
        have HBLK := Lib.hid hblk; clear hblk
        have HL2 := Lib.hid (Own.lit (k := 1) (c := intC) (B := w.heap.size) wr 3 #[.int .i64 x.a] 1 [x.a] (by omega) rfl (by omega) rfl)
        have HR3 := Lib.hid (HL2.out.reads rfl).1
        have HV3 := Lib.hid (HV.out.alloc (.cells #[.int .i64 x.a] 3))
        go_wp2_with (first
          | (at_builtin
             refine wpList_app (k := 1) (c := intC) _ rfl _ _ _ rfl 3 (.int .i64 0) 8 Tryd.underlying30 (by kernel_rfl) rfl (by decide) (by decide) intC_one _ _ _ rfl HV3.out _ _ _ _ rfl HR3.out ?hm ?hlen ?hB ?_
             case hm => rfl
             case hlen => have := HVL.out; simp only [List.length_cons, List.length_nil]; omega
             case hB => rw [World.size_alloc]; omega
             intro v4 w4 hown4 hg4 hat4
             have hB4 : Below w.heap.size w w4 := (HB.out.alloc hzw _).grown hg4 (by rw [World.size_alloc]; omega) (fun k hk => (HBLK.out k hk).1)
             have hc4 : w4.cell? ⟨b, off + i * 4, none⟩ = some (.int .i64 x.a) := by
               have h1 : w4.heap[b]? = (wr.alloc (.cells #[.int .i64 x.a] 3)).heap[b]? := hg4.block b (by rw [World.size_alloc]; omega) (fun e => by have := HBLK.out b e.symm; omega)
               rw [World.cell?_of_block (a := ⟨b, off + i * 4, none⟩) h1, World.cell?_alloc_past _ _ _ hbw]; exact hc0
             have HB4 := Lib.hid hB4; have HO4 := Lib.hid hown4
             clear hB4 hown4 hg4 hat4 hc0))
        refine ⟨⟨i + 1, _, by go_num, by omega, rfl, ?_, ?_, HB4⟩, by simp [intOf]; omega⟩
        · unfold Hid; exact HW.out.symm.trans (IntWalk.i64_left _)
        · unfold Hid; rw [HT.out]; exact HO4.out
      · obtain rfl : i = n := by omega
        have hfull : (leasts xs).take i = leasts xs := List.take_of_length_le (by rw [leasts_len, HN.out]; exact Nat.le_refl _)
        have HZ2 : Hid (IntKind.i64.wrap (L - sumA xs) = z) := by unfold Hid; have := HZ.out; rw [hfull] at this; exact this
        have HV2 : Hid (Res 1 intC 3 wr w.heap.size (.slice vA i vc) (leasts xs)) := by unfold Hid; have := HV.out.res; rw [hfull] at this; exact this
        have HSM := Lib.hid HU.out.sums
        have HLO := Lib.hid (wrap_load (s := sumA xs) HL.out HSM.out.1 HSM.out.2.1)
        clear hfull HZ HV
        by_cases hz : z < 0
        · go_wp2
          go_ret2
          have hno : dispO xs L = none := dispO_mkn (fun h => by
            have h1 := HLO.out; rw [HZ2.out] at h1; omega)
          rw [hno]
          refine ⟨_, rfl, Res.empty rfl rfl, ?_⟩
          have hB := HB.out
          have hzz := hB.size
          (repeat' (first | (with_reducible exact Below.refl _ _) | (with_reducible refine Below.alloc ?_ ?_ _) | (with_reducible refine Below.setCell ?_ ?_ _) | (with_reducible refine Below.drew ?_) | (refine Below.trans ?_ (Below.mono (by with_reducible assumption) ?_)) | go_size))
        · have hz0 : 0 ≤ z := by omega
          go_wp2_with fail
          go_loopw [1] (fun s wq => ∃ (t : Int), s = .int .i64 (z - t) ∧ 0 ≤ t ∧ t ≤ z ∧ t ≤ 5994 ∧ Hid (t ≤ sumB xs - sumA xs) ∧ Hid (Res 1 intC 3 wq w.heap.size (.slice vA i vc) (dst xs t)) ∧ Hid (Below w.heap.size w wq)) (fun s _ => (intOf s).toNat)
          case atStart =>
            refine ⟨0, by simp, Int.le_refl _, hz0, by omega, ?_, ?_, HB⟩
            · unfold Hid
              have := capS_pos (xs := xs) (ys := leasts xs) (ks := ordU xs) (fokU HU.out (Int.le_refl 0)).le
              rw [capS_ord] at this; exact this
            · unfold Hid; rw [dst_zero HU.out]; exact HV2.out
          case round =>
            obtain ⟨t, rfl, ht0, htz, ht5, HTC, HRS, HB2⟩ := hrel
            have HRR := Lib.hid ((HR.out.below HB2.out (Nat.le_refl _)).more HB2.out.size)
            by_cases hgo : 0 < z - t
            · have hdl : (dst xs t).length = xs.length := dst_len _ _
              have hnx := l20Next_any A vA c vc xs (dst xs t) wr HRR.out HRS.out.reads.1 (by rw [HN.out]; exact hl) hdl
              rw [hdl, HN.out] at hnx
              have hzt : (0 : Int) ≤ z - t := by omega
              by_cases hcap : t < sumB xs - sumA xs
              · obtain ⟨b, hb1, hb2, hb3, hb4, _⟩ := next_dst HU.out ht0 hcap
                have HB4 := Lib.hid hb4; clear hb4
                rw [HN.out] at hb1 hb2
                rw [hb1] at hnx
                have HNX := Lib.hid hnx; clear hnx hb1
                obtain ⟨g, cp, hvg, hgB, hgl, hgc, hgf, hset⟩ := HRS.out.upd1 (k := b) (by rw [hdl, HN.out]; exact hb2)
                injection hvg with e1 e2 e3
                subst e1 e3
                have hgi : gI (dst xs t) b = (dst xs t)[b]'(by rw [hdl, HN.out]; exact hb2) := gI_get _
                rw [← hgi] at hgc
                have hbu := dst_bds HU.out ht0 (k := b) (by rw [HN.out]; exact hb2)
                have hok := HU.out.at (k := b) (by rw [HN.out]; exact hb2)
                unfold UniOk at hok
                have hgb0 : 0 ≤ gI (dst xs t) b := by omega
                have hgb1 : gI (dst xs t) b ≤ 999 := by omega
                have HSET := Lib.hid (hset (gI (dst xs t) b + 1)); clear hset hgi hdl e2 hbu hok
                rw [← HB4.out] at HSET
                have HCAP := Lib.hid hcap; clear hcap
                clear hb3
                generalize gI (dst xs t) b = y at hgc HSET hgb0 hgb1
                have hbi : (b : Int) < (i : Int) := by omega
                have hbi0 : (0 : Int) ≤ (b : Int) := by omega
                go_wp2_with fail
                refine HNX.out.mono ?_
                rintro e w3 ⟨rfl, m, rfl⟩
                go_wp2_with fail
                refine ⟨⟨t + 1, by go_num, by omega, by omega, by have := HSM.out; have := HCAP.out; omega, by have := HCAP.out; unfold Hid; omega, HSET, ?_⟩, by simp [intOf]; omega⟩
                unfold Hid
                exact below_drewN' (HB2.out.setCell (p := ⟨g, b, none⟩) hgB _) _
              · have hf := (next_full HU.out ht0 (by omega : sumB xs - sumA xs ≤ t)).1
                rw [HN.out] at hf
                rw [hf] at hnx
                have HNX := Lib.hid hnx; clear hnx hf
                have hno : dispO xs L = none := dispO_mkn (fun h => by
                  have h1 := HLO.out; rw [HZ2.out] at h1; omega)
                have HNO := Lib.hid hno; clear hno hdl hcap
                go_wp2_with fail
                refine HNX.out.mono ?_
                rintro e w3 ⟨rfl, m, rfl⟩
                go_wp2
                go_ret2
                rw [HNO.out]
                refine ⟨_, rfl, Res.empty rfl rfl, ?_⟩
                have hB := HB2.out
                have hzz := hB.size
                have hB2 := below_drewN' hB m
                (repeat' (first | (with_reducible exact Below.refl _ _) | (with_reducible refine Below.alloc ?_ ?_ _) | (with_reducible refine Below.setCell ?_ ?_ _) | (with_reducible refine Below.drew ?_) | (refine Below.trans ?_ (Below.mono (by with_reducible assumption) ?_)) | go_size))
            · have htz2 : z = t := by omega
              have hsome : dispO xs L = some (dst xs t) := by
                have h1 := HLO.out; rw [HZ2.out] at h1
                have h2 := HTC.out
                have h3 := HSM.out
                rw [dispO_mk HU.out (by omega) (by omega), show L - sumA xs = t from by omega]
              have HSO := Lib.hid hsome; clear hsome
              subst htz2
              have e0 : z - z = 0 := by omega
              rw [e0]
              clear e0 hgo
              go_wp2
              go_ret2
              rw [HSO.out]
              exact ⟨_, rfl, HRS.out, HB2.out⟩
  · have hno : dispO xs L = none := dispO_mkn (fun h => hu h.1)
    rw [hno]
    have hv := unisV_f.2 hu
    clear hu hno
    go_enter Tryd.func34, Tryd.ntmps34
    go_wp2_with fail; ((with_reducible refine (specUnitsValid_any A c xs _ HRa.out hl).mono ?_); rintro e w1 ⟨rfl, hb_2⟩); have hz_2 := hb_2.size; (try simp only [World.size_alloc, World.size_setCell, World.size_drew] at hz_2)
    go_wp2
    go_ret2
    refine ⟨_, rfl, Res.empty rfl rfl, ?_⟩; (repeat' (first | (with_reducible exact Below.refl _ _) | (with_reducible refine Below.alloc ?_ ?_ _) | (with_reducible refine Below.setCell ?_ ?_ _) | (with_reducible refine Below.drew ?_) | (refine Below.trans ?_ (Below.mono (by with_reducible assumption) ?_)) | go_size))
end Go.Proofs.YtcpopbkcphpdfaaDoor
