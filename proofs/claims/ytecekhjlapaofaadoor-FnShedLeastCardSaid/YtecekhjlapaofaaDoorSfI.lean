/- impl.ShedFirst. -/
import Derived.Test.YtecekhjlapaofaaDoorSfP
import Derived.Test.YtecekhjlapaofaaDoorSrtW
import Derived.Test.YtecekhjlapaofaaDoorSrtJ
import Derived.Test.YtecekhjlapaofaaDoorBlkC
namespace Go.Proofs.YtecekhjlapaofaaDoor
open Go.RowKit Go.Deep
set_option linter.unusedSimpArgs false
set_option linter.unusedVariables false
theorem sort_pick {m : List Nat} (hn : m.Nodup) (h8 : ∀ k ∈ m, k < 8) {ds : List Int} (hp : ds.Perm (m.map fun (k : Nat) => (k : Int))) (hs : ds.Pairwise (· ≤ ·)) : ds = pickI m := by
  have hinj : ∀ a b : Nat, (a : Int) = (b : Int) → a = b := fun a b h => by omega
  have hnd : (m.map fun (k : Nat) => (k : Int)).Nodup := List.Pairwise.map _ (fun a b h e => h (hinj a b e)) hn
  have hnd2 : ds.Nodup := hp.symm.nodup hnd
  refine sorted_unique (R := fun (a b : Int) => a < b) (fun a b h1 h2 => by omega) ?_ ?_ ?_
  · exact hp.trans ((pickN_perm hn h8).map _).symm
  · have := List.Pairwise.and hs hnd2
    exact this.imp (fun h => by obtain ⟨h1, h2⟩ := h; omega)
  · unfold pickI pickN
    refine List.Pairwise.map _ (fun a b h => ?_) (range_filter_sorted 8 _)
    show (a : Int) < (b : Int)
    omega
theorem take_step {xs : List R2} {need t : Int} {j k : Nat} {l : List Nat} {o : Option (List Nat)} (hk : l.drop j = k :: l.drop (j + 1)) (ht : t < need) (h : o = (takeNeed xs need t (l.drop j)).map (l.take j ++ ·)) :
    o = (takeNeed xs need (t + sizeAt xs k) (l.drop (j + 1))).map (l.take (j + 1) ++ ·) := by
  rw [h, hk]
  simp only [takeNeed, if_pos ht, Option.map_map]
  have hj : j < l.length := by
    rcases Nat.lt_or_ge j l.length with h | h
    · exact h
    · rw [List.drop_eq_nil_of_le h] at hk; cases hk
  have e : l.take (j + 1) = l.take j ++ [k] := by
    rw [List.take_succ_eq_append_getElem hj]
    rw [List.drop_eq_getElem_cons hj] at hk
    injection hk with hk; rw [hk]
  congr 1
  funext x
  simp [e]
theorem take_stop {xs : List R2} {need t : Int} {l : List Nat} (ht : ¬ t < need) : takeNeed xs need t l = some [] := by
  cases l with
  | nil => simp [takeNeed, ht]
  | cons k l => simp [takeNeed, ht]
theorem shedCmp_any (A : Option Addr) (c : Nat) (xs : List R2) (w : World) (B g : Nat) (hR : Reads 2 r2C w B A xs) (hl : xs.length ≤ 1048576) (gb : Nat) (hbox : Bk w gb 23 #[.slice A xs.length c]) (hB : B ≤ g) (hgb : gb ≠ g) :
    CmpOk 35 (.pointer (some ⟨gb, 0, none⟩)) (rankAt xs) xs.length g w := by
  intro a b W ha hb hm
  obtain ⟨b1, off1, rfl, hb1, u1, hc1'⟩ := hR.at2 ha
  obtain ⟨b2, off2, e, u4, u5, hc2'⟩ := hR.at2 hb
  injection e with e; injection e with e1 e2; subst e1 e2
  have hk : ∀ q o, q ≠ g → W.cell? ⟨q, o, none⟩ = w.cell? ⟨q, o, none⟩ := fun q o hq => World.cell?_of_block (hm.block q (by omega))
  have hc1 := (hk b1 (off1 + a * 2 + 1) (by omega)).trans hc1'
  have hc2 := (hk b1 (off1 + b * 2 + 1) (by omega)).trans hc2'
  have hc3 : ∀ q, W.cell? ⟨gb, q, none⟩ = #[Value.slice (some ⟨b1, off1, none⟩) xs.length c][q]? := fun q => (hk gb q hgb).trans (hbox.cell q)
  have ra : rankAt xs a = xs[a].b := by unfold rankAt; rw [List.getD_eq_getElem?_getD, List.getElem?_eq_getElem ha]; rfl
  have rb : rankAt xs b = xs[b].b := by unfold rankAt; rw [List.getD_eq_getElem?_getD, List.getElem?_eq_getElem hb]; rfl
  rw [ra, rb]
  have ha1 : (a : Int) < (xs.length : Int) := by omega
  have ha0 : (0 : Int) ≤ (a : Int) := by omega
  have hb1' : (b : Int) < (xs.length : Int) := by omega
  have hb0 : (0 : Int) ≤ (b : Int) := by omega
  clear hc1' hc2' hk hm hbox hR u1 u4 u5 ra rb
  generalize xs[a] = x at hc1 ⊢
  generalize xs[b] = y at hc2 ⊢
  generalize hn : xs.length = n at hl hc3 ha1 hb1'
  clear ha hb hn
  go_enter Tryd.func35, Tryd.ntmps35
  go_wp2_with fail
  go_quiet ((go_at_call 36; exact quietL (compare_any _ _ _)))
  go_wp2_with fail
  go_ret
  exact ⟨rfl, _, rfl⟩
theorem row_alloc1 {g : Nat} {T : TypeId} {m : Nat} {f : Nat → Value} {w : World} (h : w.rowIs g T m f) (o : Obj) : (w.alloc o).rowIs g T m f := h.of_block (Below.heap_alloc w o g h.lt)
set_option maxRecDepth 100000 in
set_option maxHeartbeats 8000000 in
theorem implShedFirst_any (A : Option Addr) (c : Nat) (xs : List R2) (need : Int) (hL : I64 need) (w : World) (hR : Reads 2 r2C w w.heap.size A xs) (hl : xs.length ≤ 1048576) :
    Calls Tryd.prog 9 #[.slice A xs.length c, .int .i64 need] w (RetP 1 intC 3 w ((sfO xs need).getD []) (sfO xs need).isSome) := by
  have HR := Lib.hid hR; clear hR
  have HRa : Hid (Reads 2 r2C (w.alloc (.cells #[.slice A xs.length c] 23)) (w.alloc (.cells #[.slice A xs.length c] 23)).heap.size A xs) := by
    unfold Hid
    exact (HR.out.below (Below.alloc (Below.refl _ _) (Nat.le_refl _) _) (Nat.le_refl _)).more (by simp)
  by_cases hu : BlksP xs
  · have hv := blksV_t.2 hu
    have HU := Lib.hid hu
    have h6 := hu.1
    clear hu
    have hmf : ∀ (fn : Fn) (first cap : Array Value) (w : World), (Instr.makeFunc fn first cap).run Tryd.prog w = .ok (.func fn first cap) w := fun _ _ _ _ => rfl
    have hmk := fun W => run_mk (P := Tryd.prog) 26 3 (.int .i64 0) 1 8 xs.length Tryd.underlying26 (by kernel_rfl) (by omega) (by omega) W
    have HMK := Lib.hid hmk; clear hmk
    have HMF := Lib.hid hmf; clear hmf
    unfold I64 at hL
    obtain ⟨hL3, hL4⟩ := hL
    go_enter Tryd.func9, Tryd.ntmps9
    go_wp2_with fail; ((with_reducible refine (implBlocksValid_any A c xs _ HRa.out hl).mono ?_); rintro e w1 ⟨rfl, hb_1⟩); have cB0_1 := keepB hb_1 (g := w.heap.size) (by go_size); have fB0_1 := keepF hb_1 (g := w.heap.size) (by go_size); have zB0_1 := keepZ hb_1 (g := w.heap.size) (by go_size); have hz_1 := hb_1.size; (try simp only [World.size_alloc, World.size_setCell, World.size_drew] at hz_1)
    have HK1 : Hid (Bk w1 w.heap.size 23 #[.slice A xs.length c]) := by unfold Hid; exact (Bk.new w _ _).keep hb_1
    have HB1 : Hid (Below w.heap.size w w1) := by unfold Hid; (repeat' (first | (with_reducible exact Below.refl _ _) | (with_reducible refine Below.alloc ?_ ?_ _) | (with_reducible refine Below.setCell ?_ ?_ _) | (with_reducible refine Below.drew ?_) | (refine Below.trans ?_ (Below.mono (by with_reducible assumption) ?_)) | go_size))
    clear hb_1 fB0_1
    generalize hn : xs.length = n at hl h6 HMK HK1 cB0_1 ⊢
    have HN := Lib.hid hn; clear hn
    have hmk := HMK.out
    have hrm := Lib.hid (World.rowIs_made w1 (.int .i64 0) n 3)
    have HKx := Lib.hid (HK1.out.alloc (.cells (madeCells #[Value.int .i64 0] n) 3))
    have HBx : Hid (Below w.heap.size w (w1.alloc (.cells (madeCells #[Value.int .i64 0] n) 3))) := HB1.out.alloc HB1.out.size _
    have hga : w.heap.size < w1.heap.size := HK1.out.lt
    go_wp2_with fail
    go_loopw [19] (fun u wr => ∃ i : Nat, u = .int .i64 i ∧ i ≤ n ∧ Hid (wr.rowIs w1.heap.size 3 n (fun j => .int .i64 (if j < i then (j : Int) else 0))) ∧ Hid (Bk wr w.heap.size 23 #[.slice A n c]) ∧ Hid (Below w.heap.size w wr)) (fun u _ => n - (intOf u).toNat)
    case atStart => exact ⟨0, rfl, Nat.zero_le _, by unfold Hid; exact hrm.out.congr (fun j _ => by simp), HKx, HBx⟩
    case round =>
      obtain ⟨i, rfl, hi, HRB, HK, HB⟩ := hrel
      clear hrm HKx HBx hmk
      have hzb := HRB.out.lt
      by_cases hlt : i < n
      · have hdb := HRB.out.cell hlt
        have hfb := HRB.out.frozen
        simp only [Nat.lt_irrefl, if_false] at hdb
        have hi1 : (i : Int) < (n : Int) := by omega
        go_wp2_with fail
        refine ⟨⟨i + 1, by go_num, by omega, ?_, ?_, ?_⟩, by simp [intOf]; omega⟩
        · unfold Hid
          refine (HRB.out.set i _).congr (fun j hj => ?_)
          by_cases e : j = i
          · subst e; rw [if_pos rfl, if_pos (by omega)]
          · rw [if_neg e]
            by_cases e2 : j < i
            · rw [if_pos e2, if_pos (by omega)]
            · rw [if_neg e2, if_neg (by omega)]
        · exact HK.out.far (p := ⟨w1.heap.size, i, none⟩) (by show w.heap.size ≠ w1.heap.size; omega) _
        · exact HB.out.setCell (p := ⟨w1.heap.size, i, none⟩) (by show w.heap.size ≤ w1.heap.size; omega) _
      · obtain rfl : i = n := by omega
        have HRB3 : Hid (wr.rowIs w1.heap.size 3 i (idxC (List.range i))) := by
          unfold Hid
          refine HRB.out.congr (fun j hj => ?_)
          unfold idxC dAt; rw [if_pos hj, List.getD_eq_getElem?_getD, List.getElem?_range hj]; rfl
        have hR2 : Reads 2 r2C wr w.heap.size A xs := HR.out.below HB.out (Nat.le_refl _)
        have hk2 := HK.out
        rw [← HN.out] at hk2
        have hcmp := shedCmp_any A c xs wr w.heap.size w1.heap.size hR2 (by rw [HN.out]; exact hl) w.heap.size hk2 (by omega) (by omega)
        rw [HN.out] at hcmp
        have HCMP := Lib.hid hcmp; clear hcmp hR2 hk2
        have hmf := HMF.out
        clear HRB
        go_wp2_with fail
        refine (sortStable_any _ _ _ _ _ _ HCMP.out HRB3.out (by omega)).mono ?_
        rintro e w2 ⟨rfl, hm, hr⟩
        have HRB4 : Hid (w2.rowIs w1.heap.size 3 i (idxC (ordB xs))) := by unfold Hid ordB; rw [HN.out]; exact hr
        have HK4 := Lib.hid (HK.out.of_block (hm.block w.heap.size (by omega)))
        have HB4 : Hid (Below w.heap.size w w2) := HB.out.trans (hm.below (by omega))
        clear hm hr hmf HMF HCMP HRB3 HK HB
        have hol : (ordB xs).length = i := by unfold ordB; rw [ordO_len]; exact HN.out
        have HOL := Lib.hid hol; clear hol
        go_wp2_with fail
        go_loopw [8, 9] (fun t8 t9 wq => ∃ (j : Nat) (T : Int), t9 = .int .i64 j ∧ j ≤ i ∧ t8 = .int .i64 T ∧ 0 ≤ T ∧ T ≤ 999 * j ∧ Hid (takeNeed xs need 0 (ordB xs) = (takeNeed xs need T ((ordB xs).drop j)).map ((ordB xs).take j ++ ·)) ∧ Hid (wq.rowIs w1.heap.size 3 i (idxC (ordB xs))) ∧ Hid (Bk wq w.heap.size 23 #[.slice A i c]) ∧ Hid (Below w.heap.size w wq)) (fun _ t9 _ => i - (intOf t9).toNat)
        case atStart =>
          refine ⟨0, 0, rfl, Nat.zero_le _, rfl, by omega, by omega, ?_, HRB4, HK4, HB4⟩
          unfold Hid; cases h : takeNeed xs need 0 (ordB xs) <;> simp [h]
        case round =>
          obtain ⟨j, T, rfl, hj, rfl, hT0, hT1, HF, HRB5, HK5, HB5⟩ := hrel
          clear HRB4 HK4 HB4
          have hzb := HRB5.out.lt
          by_cases hneed : T < need
          · by_cases hlt : j < i
            · have hjo : j < (ordB xs).length := by rw [HOL.out]; exact hlt
              have hkm : (ordB xs)[j] ∈ ordB xs := List.getElem_mem _
              have hkl : (ordB xs)[j] < xs.length := ordO_mem.1 hkm
              have hdr : (ordB xs).drop j = (ordB xs)[j] :: (ordB xs).drop (j + 1) := List.drop_eq_getElem_cons hjo
              have hst := take_step hdr hneed HF.out
              have hdb : wr.cell? ⟨w1.heap.size, j, none⟩ = some (.int .i64 ((ordB xs)[j] : Nat)) := by
                rw [HRB5.out.cell hlt]; unfold idxC; rw [dAt_get hjo]
              have hsz := sizeAt_bd HU.out hkl
              have hse : sizeAt xs (ordB xs)[j] = xs[(ordB xs)[j]].a := by unfold sizeAt; rw [List.getD_eq_getElem?_getD, List.getElem?_eq_getElem hkl]; rfl
              have hrd := (HR.out.below HB5.out (Nat.le_refl _)).at2 hkl
              rw [hse] at hst hsz
              have HST := Lib.hid hst; clear hst hse hdr hkm
              rw [HN.out] at hkl
              have hgx : ∃ x, xs[(ordB xs)[j]]'(by rw [HN.out]; exact hkl) = x := ⟨_, rfl⟩
              obtain ⟨x, hgx⟩ := hgx
              rw [hgx] at HST hsz hrd
              clear hgx
              generalize (ordB xs)[j] = k at hdb hkl hrd
              obtain ⟨b, off, rfl, hb, hc0, hc1⟩ := hrd
              have hbx := HK5.out.cell
              have hzw := HB5.out.size
              have hbw : b < wr.heap.size := Nat.lt_of_lt_of_le hb hzw
              have hk1 : (k : Int) < (i : Int) := by omega
              have hk0 : (0 : Int) ≤ (k : Int) := by omega
              have hj1 : (j : Int) < (i : Int) := by omega
              have hj2 : ((j : Int) == (i : Int)) = false := by rw [beq_eq_false_iff_ne]; omega
              have hw1 : IntKind.i64.wrap (T + x.a) = T + x.a := IntWalk.i64_in _ (by omega)
              have hb0 := HK5.out.lt
              go_wp2_with fail
              go_quiet (fail)
              clear hw1
              go_wp2_with fail
              refine ⟨⟨j + 1, T + x.a, by go_num, by omega, rfl, by omega, by omega, HST, HRB5.out, HK5.out.drewN _, below_drewN' HB5.out _⟩, by simp [intOf]; omega⟩
            · obtain rfl : j = i := by omega
              have ho : sfO xs need = none := by
                unfold sfO
                rw [if_pos HU.out, HF.out, List.drop_of_length_le (by rw [HOL.out]; exact Nat.le_refl _)]
                simp [takeNeed, hneed]
              have hj2 : ((j : Int) == (j : Int)) = true := by simp
              go_wp2_with fail
              refine bodyPost_ret (by simp [results, Tryd.results9, go_sem]; try rfl) rfl ?_
              rw [ho]
              exact ⟨_, rfl, Res.empty rfl rfl, HB5.out⟩
          · have hm : takeNeed xs need 0 (ordB xs) = some ((ordB xs).take j) := by rw [HF.out, take_stop hneed]; simp
            have ho : sfO xs need = some (pickI ((ordB xs).take j)) := by unfold sfO; rw [if_pos HU.out, hm]; rfl
            have hnd : ((ordB xs).take j).Nodup := (List.take_sublist _ _).nodup (ordO_nodup _ _)
            have hlt8 : ∀ k ∈ (ordB xs).take j, k < 8 := fun k hk => by
              have := ordO_mem.1 (List.mem_of_mem_take hk)
              rw [HN.out] at this; omega
            have hzl : (((ordB xs).take j).map fun (k : Nat) => (k : Int)).length = j := by rw [List.length_map, List.length_take, HOL.out]; omega
            have hrow : wr.rowIs w1.heap.size 3 i (frontC (((ordB xs).take j).map fun (k : Nat) => (k : Int)) (idxC (ordB xs))) := by
              refine HRB5.out.congr (fun q hq => ?_)
              unfold frontC
              rw [hzl]
              by_cases hqj : q < j
              · rw [if_pos hqj]
                have e1 : zAt (((ordB xs).take j).map fun (k : Nat) => (k : Int)) q = ((dAt (ordB xs) q : Nat) : Int) := by
                  unfold zAt dAt
                  rw [List.getD_eq_getElem?_getD, List.getElem?_map, List.getElem?_take, if_pos hqj, List.getD_eq_getElem?_getD, List.getElem?_eq_getElem (by rw [HOL.out]; exact hq)]
                  rfl
                rw [e1]; rfl
              · rw [if_neg hqj]
            have hsort := sort_any _ i w1.heap.size j j (idxC (ordB xs)) wr hzl hrow hj (by omega)
            have HSRT := Lib.hid hsort
            have HPK := Lib.hid (fun ds hp hs => sort_pick (ds := ds) hnd hlt8 hp hs)
            clear hsort hrow hzl hm hnd hlt8
            have hj1 : (j : Int) ≤ (i : Int) := by omega
            have hj0 : (0 : Int) ≤ (j : Int) := by omega
            go_wp2_with fail
            refine HSRT.out.mono ?_
            rintro e w3 ⟨rfl, hm3, ds, hp, hs, hr3⟩
            have hds := HPK.out ds hp hs
            have hdl : ds.length = j := by rw [hp.length_eq, List.length_map, List.length_take, HOL.out]; omega
            have HB6 : Hid (Below w.heap.size w w3) := HB5.out.trans (hm3.below (by omega))
            have HR6 := Lib.hid hr3
            clear hm3 hr3 hp hs
            go_wp2_with fail
            refine bodyPost_ret (by simp [results, Tryd.results9, go_sem]; try rfl) rfl ?_
            rw [ho, ← hds]
            refine ⟨_, rfl, Res.of_row (Nat.le_of_lt hga) HR6.out hdl.symm (by show ds.length * 1 ≤ i; omega) (fun q x hx r hr => ?_), HB6.out⟩
            obtain rfl : r = 0 := by omega
            obtain ⟨hq, e⟩ := getElem?_of_lt hx
            rw [Nat.mul_one, Nat.add_zero]
            have hq' : q < ds.length := hq
            have e' : ds[q] = x := e
            unfold frontC
            rw [if_pos hq', zAt_get hq', e']
            rfl
  · have hv := blksV_f.2 hu
    have ho : sfO xs need = none := by unfold sfO; rw [if_neg hu]
    rw [ho]
    clear hu
    go_enter Tryd.func9, Tryd.ntmps9
    go_wp2_with fail; ((with_reducible refine (implBlocksValid_any A c xs _ HRa.out hl).mono ?_); rintro e w1 ⟨rfl, hb_2⟩); have cB0_2 := keepB hb_2 (g := w.heap.size) (by go_size); have fB0_2 := keepF hb_2 (g := w.heap.size) (by go_size); have zB0_2 := keepZ hb_2 (g := w.heap.size) (by go_size); have hz_2 := hb_2.size; (try simp only [World.size_alloc, World.size_setCell, World.size_drew] at hz_2)
    go_wp2_with fail
    refine bodyPost_ret (by simp [results, Tryd.results9, go_sem]; try rfl) rfl ?_
    exact ⟨_, rfl, Res.empty rfl rfl, by (repeat' (first | (with_reducible exact Below.refl _ _) | (with_reducible refine Below.alloc ?_ ?_ _) | (with_reducible refine Below.setCell ?_ ?_ _) | (with_reducible refine Below.drew ?_) | (refine Below.trans ?_ (Below.mono (by with_reducible assumption) ?_)) | go_size))⟩
end Go.Proofs.YtecekhjlapaofaaDoor
