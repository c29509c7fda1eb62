/- Dispatch: the program's. -/
import Derived.Test.YtcpopbkcphpdfaaDoorDspS
import Derived.Deep.DeepCutAuto
import Derived.Deep.CutBlock
namespace Go.Proofs.YtcpopbkcphpdfaaDoor
open Go.RowKit Go.Deep
set_option linter.unusedSimpArgs false
set_option linter.unusedVariables false

def outC (ys : List Int) (j : Nat) : Value := .int .i64 (gI ys j)
theorem Mk.rows {g g' : Nat} {T : TypeId} {m : Nat} {f : Nat → Value} {w w' : World} (h : Mk g (g + 1) w w') (hr : w.rowIs g' T m f) (hne : g' ≠ g) : w'.rowIs g' T m f := hr.of_block (h.block g' (by omega))
theorem row_far {g : Nat} {T : TypeId} {m : Nat} {f : Nat → Value} {w : World} (h : w.rowIs g T m f) {p : Addr} (hne : g ≠ p.block) (v : Value) : (w.setCell p v).rowIs g T m f := h.of_block (Below.heap_setCell w p v g hne)
theorem row_alloc {g : Nat} {T : TypeId} {m : Nat} {f : Nat → Value} {w : World} (h : w.rowIs g T m f) (o : Obj) : (w.alloc o).rowIs g T m f := h.of_block (Below.heap_alloc w o g h.lt)
theorem two_made (w : World) (n : Nat) (T : TypeId) (hz : Value := .int .i64 0) : ((w.alloc (.cells (madeCells #[Value.int .i64 0] n) T)).alloc (.cells (madeCells #[Value.int .i64 0] n) T)).drew.rowIs w.heap.size T n (fun _ => .int .i64 0) ∧
    ((w.alloc (.cells (madeCells #[Value.int .i64 0] n) T)).alloc (.cells (madeCells #[Value.int .i64 0] n) T)).drew.rowIs (w.heap.size + 1) T n (fun _ => .int .i64 0) := by
  constructor
  · have h := World.rowIs_made w (.int .i64 0) n T
    exact (h.of_block (Below.heap_alloc _ _ _ h.lt))
  · have h := World.rowIs_made (w.alloc (.cells (madeCells #[Value.int .i64 0] n) T)) (.int .i64 0) n T
    rw [World.size_alloc] at h
    exact h
theorem ord_step {xs : List R4} {z T : Int} {ys : List Int} {j : Nat} (hU : UnisP xs) (hz0 : 0 ≤ z) (hj : j < xs.length) (HF : fillA xs ((ordU xs).take j) (z, leasts xs) = (T, ys)) :
    ∃ k, k < xs.length ∧ dAt (ordU xs) j = k ∧ gI ys k = (uAt xs k).a ∧ ys.length = xs.length ∧ fillA xs ((ordU xs).take (j + 1)) (z, leasts xs) = (T - min T ((uAt xs k).b - (uAt xs k).a), ys.set k ((uAt xs k).a + min T ((uAt xs k).b - (uAt xs k).a))) := by
  have hFO := fokU hU hz0
  have hjo : j < (ordU xs).length := by unfold ordU; rw [ordO_len]; exact hj
  have hkm : (ordU xs)[j] ∈ ordU xs := List.getElem_mem _
  have hkl : (ordU xs)[j] < xs.length := ordO_mem.1 hkm
  have hnd : (ordU xs)[j] ∉ (ordU xs).take j := by
    intro hm
    obtain ⟨q, hq, e⟩ := List.mem_iff_getElem.1 hm
    rw [List.getElem_take] at e
    rw [List.length_take] at hq
    have := (List.nodup_iff_pairwise_ne.1 (ordO_nodup (keyU xs) xs.length))
    exact (List.pairwise_iff_getElem.1 this q j (by unfold ordU at hjo; omega) hjo (by omega)) e
  have hyk : gI ys (ordU xs)[j] = (uAt xs (ordU xs)[j]).a := by
    have := fillA_far xs ((ordU xs).take j) (z, leasts xs) (ordU xs)[j] (fun q hq => hFO.lt q (List.mem_of_mem_take hq)) hnd
    rw [HF] at this
    rw [this]; exact gI_leasts hkl
  have hyl : ys.length = xs.length := by
    have := fillA_len xs ((ordU xs).take j) (z, leasts xs)
    rw [HF] at this; simpa using this
  have hstep : fillA xs ((ordU xs).take (j + 1)) (z, leasts xs) = fillS xs (T, ys) (ordU xs)[j] := by
    rw [List.take_succ_eq_append_getElem hjo]
    unfold fillA
    rw [List.foldl_append]
    unfold fillA at HF
    rw [HF]; rfl
  unfold fillS at hstep
  simp only at hstep
  rw [hyk] at hstep
  exact ⟨_, hkl, dAt_get hjo, hyk, hyl, hstep⟩

set_option maxHeartbeats 8000000 in
theorem implDispatch_any (A : Option Addr) (c : Nat) (xs : List R4) (L : Int) (hL : I64 L) (w : World) (hR : Reads 4 r4C w w.heap.size A xs) (hl : xs.length ≤ 1048576) :
    Calls Tryd.prog 32 #[.slice A xs.length c, .int .i64 L] w (RetD w (dispO xs L)) := by
  have HR := Lib.hid hR; clear hR
  have HRa : Hid (Reads 4 r4C (w.alloc (.cells #[.slice A xs.length c] 23)) (w.alloc (.cells #[.slice A xs.length c] 23)).heap.size A xs) := by
    unfold Hid
    exact (HR.out.below (Below.alloc (Below.refl _ _) (Nat.le_refl _) _) (Nat.le_refl _)).more (by simp)
  by_cases hu : UnisP xs
  · have hv := unisV_t.2 hu
    have HU := Lib.hid hu
    have h6 := hu.1
    clear hu
    have hmf : ∀ (fn : Fn) (first cap : Array Value) (w : World), (Instr.makeFunc fn first cap).run Tryd.prog w = .ok (.func fn first cap) w := fun _ _ _ _ => rfl
    have HMF := Lib.hid hmf; clear hmf
    have hmk := fun W => run_mk (P := Tryd.prog) 30 3 (.int .i64 0) 1 8 xs.length Tryd.underlying30 (by kernel_rfl) (by omega) (by omega) W
    have HMK := Lib.hid hmk; clear hmk
    go_enter Tryd.func32, Tryd.ntmps32
    go_wp2_with fail; ((with_reducible refine (implUnitsValid_any A c xs _ HRa.out hl).mono ?_); rintro e w1 ⟨rfl, hb_1⟩); have cB0_1 := keepB hb_1 (g := w.heap.size) (by go_size); have fB0_1 := keepF hb_1 (g := w.heap.size) (by go_size); have zB0_1 := keepZ hb_1 (g := w.heap.size) (by go_size); have hz_1 := hb_1.size; (try simp only [World.size_alloc, World.size_setCell, World.size_drew] at hz_1)
    have HK1 : Hid (Bk w1 w.heap.size 23 #[.slice A xs.length c]) := by unfold Hid; exact (Bk.new w _ _).keep hb_1
    have HB1 : Hid (Below w.heap.size w w1) := by unfold Hid; (repeat' (first | (with_reducible exact Below.refl _ _) | (with_reducible refine Below.alloc ?_ ?_ _) | (with_reducible refine Below.setCell ?_ ?_ _) | (with_reducible refine Below.drew ?_) | (refine Below.trans ?_ (Below.mono (by with_reducible assumption) ?_)) | go_size))
    clear hb_1 fB0_1
    generalize hn : xs.length = n at hl h6 HMK HK1 cB0_1 ⊢
    have HN := Lib.hid hn; clear hn
    have hL2 := hL
    unfold I64 at hL2
    obtain ⟨hL3, hL4⟩ := hL2
    have HL := Lib.hid hL; clear hL
    go_upto_region 3 with fail
    go_cut [6, 7] (fun s6 s7 wx => ∃ ga gb : Nat, s6 = .slice (some ⟨ga, 0, none⟩) n n ∧ s7 = .slice (some ⟨gb, 0, none⟩) n n ∧ ga ≠ gb ∧ w.heap.size < ga ∧ w.heap.size < gb ∧ Hid (wx.rowIs ga 3 n (fun _ => .int .i64 0)) ∧ Hid (wx.rowIs gb 3 n (fun _ => .int .i64 0)) ∧ Hid (Bk wx w.heap.size 23 #[.slice A n c]) ∧ Hid (Below w.heap.size w wx))
    case first =>
      have hmk := HMK.out
      have zB : w.heap.size < w1.heap.size := HK1.out.lt
      go_region
      all_goals
        go_wp2_with fail
        go_meet
        have hB := HB1.out
        have hz2 := (two_made w1 n 3)
        first
          | exact ⟨_, _, rfl, rfl, by omega, by omega, by omega, hz2.1, hz2.2, (HK1.out.alloc _).alloc _, (((hB.alloc (by omega) _).alloc (by rw [World.size_alloc]; omega) _).drew)⟩
          | exact ⟨_, _, rfl, rfl, by omega, by omega, by omega, hz2.2, hz2.1, (HK1.out.alloc _).alloc _, (((hB.alloc (by omega) _).alloc (by rw [World.size_alloc]; omega) _).drew)⟩
    case rest =>
      obtain ⟨ga, gb, rfl, rfl, hgab, hga, hgb, HRA, HRB, HK, HB⟩ := hcut
      clear HB1 HK1 HMK cB0_1 zB0_1 hz_1
      have hbx := HK.out.cell
      go_wp2_with fail
      go_loopw [1, 24] (fun s u wr => ∃ (i : Nat) (z : Int), u = .int .i64 i ∧ i ≤ n ∧ s = .int .i64 z ∧ Hid (IntKind.i64.wrap (L - sumI ((leasts xs).take i)) = z) ∧
          Hid (wr.rowIs ga 3 n (fun j => .int .i64 (if j < i then gI (leasts xs) j else 0))) ∧ Hid (wr.rowIs gb 3 n (fun j => .int .i64 (if j < i then (j : Int) else 0))) ∧ Hid (Bk wr w.heap.size 23 #[.slice A n c]) ∧ Hid (Below w.heap.size w wr)) (fun _ u _ => n - (intOf u).toNat)
      case atStart =>
        refine ⟨0, L, rfl, Nat.zero_le _, rfl, ?_, ?_, ?_, HK, HB⟩
        · unfold Hid; simp only [List.take_zero, sumI, Int.sub_zero]; exact wrap_id HL.out
        · unfold Hid; exact HRA.out.congr (fun j _ => by simp)
        · unfold Hid; exact HRB.out.congr (fun j _ => by simp)
      case round =>
        obtain ⟨i, z, rfl, hi, rfl, HZ, HRA2, HRB2, HK2, HB2⟩ := hrel
        clear HRA HRB HK HB hbx
        have hzb := wrap_in (L - sumI ((leasts xs).take i))
        rw [HZ.out] at hzb
        unfold I64 at hzb
        obtain ⟨hzb0, hzb1⟩ := hzb
        have hza := HRA2.out.lt
        have hzb := HRB2.out.lt
        by_cases hlt : i < n
        · have hx : i < xs.length := by rw [HN.out]; exact hlt
          obtain ⟨b, off, rfl, hb, hc0, hc1, hc2, hc3⟩ := HR.out.at4 hx
          have hc0 := (HB2.out.cell (p := ⟨b, off + i * 4, none⟩) hb).trans hc0
          have hc1 := (HB2.out.cell (p := ⟨b, off + i * 4 + 1, none⟩) hb).trans hc1
          have hc2 := (HB2.out.cell (p := ⟨b, off + i * 4 + 2, none⟩) hb).trans hc2
          have hc3 := (HB2.out.cell (p := ⟨b, off + i * 4 + 3, none⟩) hb).trans hc3
          have hzw := HB2.out.size
          have hbw : b < wr.heap.size := Nat.lt_of_lt_of_le hb hzw
          have hT : (leasts xs).take (i + 1) = (leasts xs).take i ++ [xs[i].a] := by
            rw [List.take_succ_eq_append_getElem (by simpa using hx)]; simp [leasts]
          have HW : Hid (IntKind.i64.wrap (z - xs[i].a) = IntKind.i64.wrap (L - sumI ((leasts xs).take (i + 1)))) := by
            unfold Hid; rw [← HZ.out, wrap_sub, hT, sumI_append]; simp [sumI]
          have HGL : Hid (gI (leasts xs) i = xs[i].a) := by unfold Hid; rw [gI_leasts hx, uAt_get hx]
          clear hT
          generalize xs[i] = x at hc0 hc1 hc2 hc3 HW HGL
          have hda := HRA2.out.cell hlt
          have hfa := HRA2.out.frozen
          have hdb := HRB2.out.cell hlt
          have hfb := HRB2.out.frozen
          simp only [Nat.lt_irrefl, if_false] at hda hdb
          have hne1 : ga ≠ b := by omega
          have hne2 : gb ≠ b := by omega
          have hgba : gb ≠ ga := fun h => hgab h.symm
          go_wp2_with fail
          refine ⟨⟨i + 1, _, by go_num, by omega, rfl, HW.out.symm.trans (IntWalk.i64_left _), ?_, ?_, ?_, ?_⟩, by simp [intOf]; omega⟩
          · unfold Hid
            refine (row_alloc (row_far (p := ⟨gb, i, none⟩) (HRA2.out.set i _) hgab _) _).congr (fun j hj => ?_)
            by_cases e : j = i
            · subst e; rw [if_pos rfl, if_pos (by omega), HGL.out]
            · rw [if_neg e]
              by_cases e2 : j < i
              · rw [if_pos e2, if_pos (by omega)]
              · rw [if_neg e2, if_neg (by omega)]
          · unfold Hid
            refine (row_alloc ((row_far (p := ⟨ga, i, none⟩) HRB2.out hgba _).set i _) _).congr (fun j hj => ?_)
            by_cases e : j = i
            · subst e; rw [if_pos rfl, if_pos (by omega)]
            · rw [if_neg e]
              by_cases e2 : j < i
              · rw [if_pos e2, if_pos (by omega)]
              · rw [if_neg e2, if_neg (by omega)]
          · unfold Hid; exact ((HK2.out.far (p := ⟨ga, i, none⟩) (by show w.heap.size ≠ ga; omega) _).far (p := ⟨gb, i, none⟩) (by show w.heap.size ≠ gb; omega) _).alloc _
          · unfold Hid; exact ((HB2.out.setCell (p := ⟨ga, i, none⟩) (by show w.heap.size ≤ ga; omega) _).setCell (p := ⟨gb, i, none⟩) (by show w.heap.size ≤ gb; omega) _).alloc (by simpa using hzw) _
        · obtain rfl : i = n := by omega
          have hfull : (leasts xs).take i = leasts xs := List.take_of_length_le (by rw [leasts_len, HN.out]; exact Nat.le_refl _)
          have HZ2 : Hid (IntKind.i64.wrap (L - sumA xs) = z) := by unfold Hid; have := HZ.out; rw [hfull] at this; exact this
          have HSM := Lib.hid HU.out.sums
          have HLO := Lib.hid (wrap_load (s := sumA xs) HL.out HSM.out.1 HSM.out.2.1)
          have HRA3 : Hid (wr.rowIs ga 3 i (outC (leasts xs))) := by unfold Hid; exact HRA2.out.congr (fun j hj => by unfold outC; rw [if_pos hj])
          have HRB3 : Hid (wr.rowIs gb 3 i (idxC (List.range i))) := by
            unfold Hid
            refine HRB2.out.congr (fun j hj => ?_)
            unfold idxC dAt; rw [if_pos hj, List.getD_eq_getElem?_getD, List.getElem?_range hj]; rfl
          clear hfull HZ HRA2 HRB2
          by_cases hz : z < 0
          · go_wp2
            go_ret2
            have hno : dispO xs L = none := dispO_mkn (fun h => by
              have h1 := HLO.out; rw [HZ2.out] at h1; omega)
            rw [hno]
            exact ⟨_, rfl, Res.empty rfl rfl, HB2.out⟩
          · have hz0 : 0 ≤ z := by omega
            have hR2 : Reads 4 r4C wr w.heap.size A xs := HR.out.below HB2.out (Nat.le_refl _)
            have hk2 := HK2.out
            rw [← HN.out] at hk2
            have hcmp := dispCmp_any A c xs wr w.heap.size gb hR2 (by rw [HN.out]; exact hl) w.heap.size hk2 (by omega) (by omega)
            rw [HN.out] at hcmp
            have HCMP := Lib.hid hcmp; clear hcmp hR2 hk2
            have hmf := HMF.out
            go_wp2_with fail
            refine (sortStable_any _ _ _ _ _ _ HCMP.out HRB3.out (by omega)).mono ?_
            rintro e w2 ⟨rfl, hm, hr⟩
            have HM := Lib.hid hm
            have HRB4 : Hid (w2.rowIs gb 3 i (idxC (ordU xs))) := by unfold Hid ordU; rw [HN.out]; exact hr
            have HRA4 := Lib.hid (hm.rows HRA3.out hgab)
            have HK4 := Lib.hid (HK2.out.of_block (hm.block w.heap.size (by omega)))
            have HB4 : Hid (Below w.heap.size w w2) := HB2.out.trans (hm.below (by omega))
            clear hm hr hmf HMF HM HCMP
            clear HRA3 HRB3 HK2 HB2
            have hol : (ordU xs).length = i := by unfold ordU; rw [ordO_len]; exact HN.out
            have HOL := Lib.hid hol; clear hol
            go_wp2_with fail
            go_loopw [1, 50] (fun s u wq => ∃ (j : Nat) (T : Int) (ys : List Int), u = .int .i64 j ∧ j ≤ i ∧ s = .int .i64 T ∧ 0 ≤ T ∧ T ≤ z ∧ Hid (fillA xs ((ordU xs).take j) (z, leasts xs) = (T, ys)) ∧
                Hid (wq.rowIs ga 3 i (outC ys)) ∧ Hid (wq.rowIs gb 3 i (idxC (ordU xs))) ∧ Hid (Bk wq w.heap.size 23 #[.slice A i c]) ∧ Hid (Below w.heap.size w wq)) (fun _ u _ => i - (intOf u).toNat)
            case atStart => exact ⟨0, z, leasts xs, rfl, Nat.zero_le _, rfl, hz0, Int.le_refl _, rfl, HRA4, HRB4, HK4, HB4⟩
            case round =>
              obtain ⟨j, T, ys, rfl, hj, rfl, hT0, hTz, HF, HRA5, HRB5, HK5, HB5⟩ := hrel
              clear HRA4 HRB4 HK4 HB4
              have hza := HRA5.out.lt
              have hzb := HRB5.out.lt
              by_cases hlt : j < i
              · obtain ⟨k, hkl, hkd, hyk, hyl, hstep⟩ := ord_step HU.out hz0 (by rw [HN.out]; exact hlt) HF.out
                have hdb : wr.cell? ⟨gb, j, none⟩ = some (.int .i64 (k : Nat)) := by
                  rw [HRB5.out.cell hlt]; unfold idxC; rw [hkd]
                have hok := HU.out.at hkl
                have hrd := (HR.out.below HB5.out (Nat.le_refl _)).at4 hkl
                rw [(uAt_get hkl).symm] at hrd
                rw [HN.out] at hkl
                have hda : wr.cell? ⟨ga, k, none⟩ = some (.int .i64 (uAt xs k).a) := by
                  rw [HRA5.out.cell hkl]; unfold outC; rw [hyk]
                have HST := Lib.hid hstep; clear hstep hkd hyk
                generalize uAt xs k = x at hok hrd hda HST
                obtain ⟨b, off, rfl, hb, u1, hc1, u2, u3⟩ := hrd
                clear u1 u2 u3
                have HYL := Lib.hid hyl; clear hyl
                unfold UniOk at hok
                obtain ⟨ho1, ho2, ho3, _⟩ := hok
                have hbx := HK5.out.cell
                have hfa := HRA5.out.frozen
                have hzw := HB5.out.size
                have hbw : b < wr.heap.size := Nat.lt_of_lt_of_le hb hzw
                have hk1 : (k : Int) < (i : Int) := by omega
                have hk0 : (0 : Int) ≤ (k : Int) := by omega
                have hw1 : IntKind.i64.wrap (x.b - x.a) = x.b - x.a := IntWalk.i64_in _ (by omega)
                have hcs : (T ≤ x.b - x.a) ∨ (x.b - x.a < T) := by omega
                rcases hcs with hcs | hcs
                · have hmn : min T (x.b - x.a) = T := by omega
                  have HMN := Lib.hid hmn; clear hmn
                  go_wp2_with fail
                  go_quiet (fail)
                  clear hw1
                  go_wp2_with fail
                  refine ⟨⟨j + 1, 0, ys.set k (x.a + T), by go_num, by omega, by first | rfl | (congr 1; omega), by omega, by omega, by unfold Hid; rw [HST.out, HMN.out]; try (congr 1; omega), ?_, HRB5.out.of_block (Below.heap_setCell wr ⟨ga, k, none⟩ _ gb (fun e => hgab e.symm)), HK5.out.far (p := ⟨ga, k, none⟩) (by show w.heap.size ≠ ga; omega) _, below_drewN' (HB5.out.setCell (p := ⟨ga, k, none⟩) (by show w.heap.size ≤ ga; omega) _) _⟩, by simp [intOf]; omega⟩
                  refine World.rowIs.congr (HRA5.out.set k (.int .i64 (x.a + T))) (fun q hq => ?_)
                  unfold outC
                  rw [gI_set (by rw [HYL.out, HN.out]; exact hkl)]
                  by_cases e : q = k
                  · rw [if_pos e, if_pos e.symm]
                  · rw [if_neg e, if_neg (show ¬ k = q from fun h => e h.symm)]
                · have hmn : min T (x.b - x.a) = x.b - x.a := by omega
                  have HMN := Lib.hid hmn; clear hmn
                  go_wp2_with fail
                  go_quiet (fail)
                  clear hw1
                  go_wp2_with fail
                  refine ⟨⟨j + 1, T - (x.b - x.a), ys.set k (x.a + (x.b - x.a)), by go_num, by omega, by first | rfl | (congr 1; omega), by omega, by omega, by unfold Hid; rw [HST.out, HMN.out]; try (congr 1; omega), ?_, HRB5.out.of_block (Below.heap_setCell wr ⟨ga, k, none⟩ _ gb (fun e => hgab e.symm)), HK5.out.far (p := ⟨ga, k, none⟩) (by show w.heap.size ≠ ga; omega) _, below_drewN' (HB5.out.setCell (p := ⟨ga, k, none⟩) (by show w.heap.size ≤ ga; omega) _) _⟩, by simp [intOf]; omega⟩
                  refine World.rowIs.congr (HRA5.out.set k (.int .i64 (x.a + (x.b - x.a)))) (fun q hq => ?_)
                  unfold outC
                  rw [gI_set (by rw [HYL.out, HN.out]; exact hkl)]
                  by_cases e : q = k
                  · rw [if_pos e, if_pos e.symm]
                  · rw [if_neg e, if_neg (show ¬ k = q from fun h => e h.symm)]
              · obtain rfl : j = i := by omega
                have hF := HF.out
                rw [List.take_of_length_le (by rw [HOL.out]; exact Nat.le_refl _)] at hF
                have hrem := fillA_rem (fokU HU.out hz0)
                rw [hF, capS_ord] at hrem
                have hd : dst xs z = ys := by unfold dst; rw [hF]
                have hyl : ys.length = j := by rw [← hd, dst_len]; exact HN.out
                simp only at hrem
                have HREM := Lib.hid hrem; have HD := Lib.hid hd; have HYL := Lib.hid hyl
                clear hrem hd hyl hF
                by_cases hT : 0 < T
                · go_wp2
                  go_ret2
                  have hno : dispO xs L = none := dispO_mkn (fun h => by
                    have h1 := HLO.out; rw [HZ2.out] at h1
                    have h2 := HREM.out; have h3 := HSM.out; omega)
                  rw [hno]
                  exact ⟨_, rfl, Res.empty rfl rfl, HB5.out⟩
                · go_wp2
                  go_ret2
                  have hsome : dispO xs L = some ys := by
                    have h1 := HLO.out; rw [HZ2.out] at h1
                    have h2 := HREM.out; have h3 := HSM.out
                    rw [dispO_mk HU.out (by omega) (by omega), show L - sumA xs = z from by omega, HD.out]
                  rw [hsome]
                  refine ⟨_, rfl, Res.of_row (by omega) HRA5.out HYL.out.symm (by show ys.length * 1 ≤ j; rw [HYL.out]; omega) (fun q y hy p hp => ?_), HB5.out⟩
                  obtain rfl : p = 0 := by omega
                  obtain ⟨hq, e⟩ := getElem?_of_lt hy
                  rw [Nat.mul_one, Nat.add_zero]
                  show Value.int .i64 (gI ys q) = Value.int .i64 y
                  rw [gI_get (ys := ys) hq]; exact congrArg _ e
  · have hno : dispO xs L = none := dispO_mkn (fun h => hu h.1)
    rw [hno]
    have hv := unisV_f.2 hu
    clear hu hno
    go_enter Tryd.func32, Tryd.ntmps32
    go_wp2_with fail; ((with_reducible refine (implUnitsValid_any A c xs _ HRa.out hl).mono ?_); rintro e w1 ⟨rfl, hb_2⟩); have cB0_2 := keepB hb_2 (g := w.heap.size) (by go_size); have fB0_2 := keepF hb_2 (g := w.heap.size) (by go_size); have zB0_2 := keepZ hb_2 (g := w.heap.size) (by go_size); have hz_2 := hb_2.size; (try simp only [World.size_alloc, World.size_setCell, World.size_drew] at hz_2)
    go_wp2
    go_ret2
    refine ⟨_, rfl, Res.empty rfl rfl, ?_⟩; (repeat' (first | (with_reducible exact Below.refl _ _) | (with_reducible refine Below.alloc ?_ ?_ _) | (with_reducible refine Below.setCell ?_ ?_ _) | (with_reducible refine Below.drew ?_) | (refine Below.trans ?_ (Below.mono (by with_reducible assumption) ?_)) | go_size))
end Go.Proofs.YtcpopbkcphpdfaaDoor
