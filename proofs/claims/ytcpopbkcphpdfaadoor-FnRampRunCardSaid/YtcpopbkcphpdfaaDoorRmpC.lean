/- Ramps: the units of the next hour, the reference's. -/
import Derived.Test.YtcpopbkcphpdfaaDoorRmpA
import Derived.StillTailTactics
namespace Go.Proofs.YtcpopbkcphpdfaaDoor
open Go.RowKit
set_option linter.unusedSimpArgs false
set_option linter.unusedVariables false

theorem rampL_snoc {xs : List R4} {rs ys : List Int} {i : Nat} (h1 : i < xs.length) (h2 : i < rs.length) (h3 : i < ys.length) : (rampL xs rs ys).take (i + 1) = (rampL xs rs ys).take i ++ [rampOne xs[i] rs[i] ys[i]] := by
  have h := rampL_get (xs := xs) (rs := rs) (ys := ys) h1 h2 h3
  obtain ⟨hl, e⟩ := List.getElem?_eq_some_iff.1 h
  rw [List.take_succ_eq_append_getElem hl, e]

set_option maxRecDepth 100000 in
set_option maxHeartbeats 2000000 in
theorem specRampUnits_any (A B C : Option Addr) (c d f : Nat) (xs : List R4) (rs ys : List Int) (w : World) (hR : Reads 4 r4C w w.heap.size A xs) (hT : Reads 1 intC w w.heap.size B rs) (hS : Reads 1 intC w w.heap.size C ys) (hl : xs.length ≤ 1048576) (hl1 : rs.length ≤ 1048576) (hl2 : ys.length ≤ 1048576) :
    Calls Tryd.prog 28 #[.slice A xs.length c, .slice B rs.length d, .slice C ys.length f] w (RetS 4 r4C 27 w (rampOut xs rs ys)) := by
  have HR := Lib.hid hR; clear hR
  have HS := Lib.hid hS; clear hS
  have HT := Lib.hid hT; clear hT
  have HA := Lib.hid (Own.lit (k := 4) (c := r4C) (B := w.heap.size) w 27 #[] 0 [] (Nat.le_refl _) rfl (by omega) rfl)
  have hBa : Below w.heap.size w (w.alloc (.cells #[] 27)) := (Below.refl _ _).alloc (Nat.le_refl _) _
  have HRa : Hid (Reads 4 r4C (w.alloc (.cells #[] 27)) (w.alloc (.cells #[] 27)).heap.size A xs) := (HR.out.below hBa (Nat.le_refl _)).more hBa.size
  have HSa : Hid (Reads 1 intC (w.alloc (.cells #[] 27)) (w.alloc (.cells #[] 27)).heap.size C ys) := (HS.out.below hBa (Nat.le_refl _)).more hBa.size
  clear hBa
  generalize hO : rampOut xs rs ys = O
  have HO := Lib.hid hO; clear hO
  by_cases hp : OutsP xs ys ∧ rs.length = xs.length
  · have hv := outsB_t.2 hp.1
    have hne : ((rs.length : Int) != (xs.length : Int)) = false := by simp [hp.2]
    have HP := Lib.hid hp; clear hp
    go_enter Tryd.func28, Tryd.ntmps28
    go_wp2_with fail; ((with_reducible refine (specOutputsValid_any A C c f xs ys _ HRa.out HSa.out hl hl2).mono ?_); rintro e w1 ⟨rfl, hb_1⟩); have hz_1 := hb_1.size; (try simp only [World.size_alloc, World.size_setCell, World.size_drew] at hz_1)
    have HB1 : Hid (Below w.heap.size w w1) := by unfold Hid; (repeat' (first | (with_reducible exact Below.refl _ _) | (with_reducible refine Below.alloc ?_ ?_ _) | (with_reducible refine Below.setCell ?_ ?_ _) | (with_reducible refine Below.drew ?_) | (refine Below.trans ?_ (Below.mono (by with_reducible assumption) ?_)) | go_size))
    have HV1 := Lib.hid (HA.out.keep hb_1)
    go_wp2_with fail
    have hxl : Hid (rs.length = xs.length ∧ ys.length = xs.length) := ⟨HP.out.2, HP.out.1.2.1⟩
    generalize hn : xs.length = n at hl hne hxl ⊢
    have HN := Lib.hid hn; clear hn
    generalize hm1 : rs.length = m1 at hl1 hne hxl ⊢
    generalize hm2 : ys.length = m2 at hl2 hxl ⊢
    have HM1 := Lib.hid hm1; have HM2 := Lib.hid hm2; clear hm1 hm2
    go_loopw [7, 8] (fun t u wr => ∃ i : Nat, u = .int .i64 i ∧ i ≤ n ∧ Hid (∀ (j : Nat) (hj : j < rs.length), j < i → 0 ≤ rs[j] ∧ rs[j] ≤ 999) ∧ Hid (Own 4 r4C 27 wr w.heap.size t ((rampL xs rs ys).take i)) ∧ Hid (Below w.heap.size w wr)) (fun _ u _ => n - (intOf u).toNat)
    case atStart => exact ⟨0, rfl, Nat.zero_le _, fun j _ hj => absurd hj (by omega), HV1, HB1⟩
    case round =>
      obtain ⟨i, rfl, hi, HI, HV, HB⟩ := hrel
      clear HV1 HB1 hb_1 hz_1
      by_cases hlt : i < n
      · have hx : i < xs.length := by rw [HN.out]; exact hlt
        have hr : i < rs.length := by rw [HM1.out, hxl.out.1]; exact hlt
        have hy : i < ys.length := by rw [HM2.out, hxl.out.2]; exact hlt
        obtain ⟨b, off, rfl, hb, hc0, hc1, hc2, hc3⟩ := HR.out.at4 hx
        have hc0 := (HB.out.cell (p := ⟨b, off + i * 4, none⟩) hb).trans hc0
        have hc1 := (HB.out.cell (p := ⟨b, off + i * 4 + 1, none⟩) hb).trans hc1
        have hc2 := (HB.out.cell (p := ⟨b, off + i * 4 + 2, none⟩) hb).trans hc2
        have hc3 := (HB.out.cell (p := ⟨b, off + i * 4 + 3, none⟩) hb).trans hc3
        obtain ⟨b1, off1, rfl, hb1, hd1'⟩ := HT.out.at1 hr
        have hd1 : wr.cell? ⟨b1, off1 + i, none⟩ = some (.int .i64 rs[i]) := (HB.out.cell (p := ⟨b1, off1 + i, none⟩) hb1).trans hd1'
        obtain ⟨b2, off2, rfl, hb2, hd2'⟩ := HS.out.at1 hy
        have hd2 : wr.cell? ⟨b2, off2 + i, none⟩ = some (.int .i64 ys[i]) := (HB.out.cell (p := ⟨b2, off2 + i, none⟩) hb2).trans hd2'
        clear hd1' hd2'
        have hpo := HP.out.1.1.2 xs[i] (List.getElem_mem _)
        have hyo := HP.out.1.2.2 i hx hy
        have hgt := rampL_snoc hx hr hy
        unfold UniOk at hpo
        generalize hxx : xs[i] = x at hc0 hc1 hc2 hc3 hpo hyo hgt
        generalize hrr : rs[i] = r at hd1 hgt
        generalize hyy : ys[i] = y at hd2 hyo hgt
        have HX := Lib.hid (And.intro hxx (And.intro hrr hyy)); clear hxx hrr hyy
        have HGT := Lib.hid hgt; clear hgt
        obtain ⟨hp1, hp2, hp3, _⟩ := hpo
        obtain ⟨hy1, hy2⟩ := hyo
        have hxx := hxl.out
        have hi1 : (i : Int) < (n : Int) := by omega
        have hi0 : (0 : Int) ≤ (i : Int) := by omega
        have hi2 : (i : Int) < (m1 : Int) := by omega
        have hi3 : (i : Int) < (m2 : Int) := by omega
        clear hxx
        have hzw := HB.out.size
        have hbw : b < wr.heap.size := by omega
        have hbw1 : b1 < wr.heap.size := by omega
        have hbw2 : b2 < wr.heap.size := by omega
        by_cases q : 0 ≤ r ∧ r ≤ 999
        · have hq : inB r 0 999 = true := inB_t.2 q
          go_wp2_with (go_at_call 61; refine (l1In_any _ _ _ _).mono ?_; rintro e w' ⟨rfl, rfl⟩)
          have K0 := Bk.new wr 27 #[.int .i64 x.a, .int .i64 x.b, .int .i64 x.c, .int .i64 x.d]
          have HV0 := HV.out.alloc (.cells #[.int .i64 x.a, .int .i64 x.b, .int .i64 x.c, .int .i64 x.d] 27)
          have HB0 := HB.out.alloc hzw (.cells #[.int .i64 x.a, .int .i64 x.b, .int .i64 x.c, .int .i64 x.d] 27)
          have hd1 := (World.cell?_alloc_past (.cells #[.int .i64 x.a, .int .i64 x.b, .int .i64 x.c, .int .i64 x.d] 27) b1 (off1 + i) hbw1).trans hd1
          have hd2 := (World.cell?_alloc_past (.cells #[.int .i64 x.a, .int .i64 x.b, .int .i64 x.c, .int .i64 x.d] 27) b2 (off2 + i) hbw2).trans hd2
          have hzv : ∀ g, Value.ownBlock _ = some g → g < wr.heap.size := fun g h => (HV.out.blk g h).2
          have HZV := Lib.hid hzv; clear hzv
          clear hc0 hc1 hc2 hc3
          generalize hg : wr.heap.size = g at K0 hbw1 hbw2 hzw HZV ⊢
          generalize wr.alloc (.cells #[.int .i64 x.a, .int .i64 x.b, .int .i64 x.c, .int .i64 x.d] 27) = W at K0 HV0 HB0 hd1 hd2 ⊢
          have cB := K0.cell
          have fB := K0.frozen
          have zB := K0.lt
          have HK := Lib.hid K0; have HV1 := Lib.hid HV0; have HB1 := Lib.hid HB0
          clear K0 HV0 HB0 hg
          obtain ⟨q1, q2⟩ := q
          have hw1 : IntKind.i64.wrap (y - r) = y - r := IntWalk.i64_in _ (by omega)
          have hw2 : IntKind.i64.wrap (y + r) = y + r := IntWalk.i64_in _ (by omega)
          have hmx : (∃ mx, mx = y - r ∧ max x.a (y - r) = mx ∧ x.a < y - r) ∨ (∃ mx, mx = x.a ∧ max x.a (y - r) = mx ∧ y - r ≤ x.a) := by
            rcases Int.lt_or_le x.a (y - r) with h | h
            · exact .inl ⟨_, rfl, by omega, h⟩
            · exact .inr ⟨_, rfl, by omega, h⟩
          have hmn : (∃ mn, mn = y + r ∧ min x.b (y + r) = mn ∧ y + r < x.b) ∨ (∃ mn, mn = x.b ∧ min x.b (y + r) = mn ∧ x.b ≤ y + r) := by
            rcases Int.lt_or_le (y + r) x.b with h | h
            · exact .inl ⟨_, rfl, by omega, h⟩
            · exact .inr ⟨_, rfl, by omega, h⟩
          rcases hmx with ⟨mx, hme, hmx, q1⟩ | ⟨mx, hme, hmx, q1⟩ <;> rcases hmn with ⟨mn, hne, hmn, q2⟩ | ⟨mn, hne, hmn, q2⟩
          all_goals
            have HE := Lib.hid (And.intro hme hne)
            have HMX := Lib.hid (And.intro hmx hmn)
            clear hmx hmn hme hne
            go_wp2_with fail
            go_still_tail 13, (by kernel_rfl)
            go_wp2_with fail
            rw [← HE.out.1]
            have hK2 : Bk (W.setCell ⟨g, 0, none⟩ (.int .i64 mx)).drew g 27 #[.int .i64 mx, .int .i64 x.b, .int .i64 x.c, .int .i64 x.d] := HK.out.set 0 (.int .i64 mx)
            have hB2 : Below w.heap.size w (W.setCell ⟨g, 0, none⟩ (.int .i64 mx)).drew := (HB1.out.setCell (p := ⟨g, 0, none⟩) hzw (.int .i64 mx)).drew
            have hV2 : Own 4 r4C 27 (W.setCell ⟨g, 0, none⟩ (.int .i64 mx)).drew w.heap.size _ _ := HV1.out.keep_at (w' := (W.setCell ⟨g, 0, none⟩ (.int .i64 mx)).drew) (by simp [World.setCell]) rfl rfl rfl (fun k hk => Below.heap_setCell _ _ _ _ (by have := HZV.out k hk; show k ≠ g; omega))
            have hd1 : (W.setCell ⟨g, 0, none⟩ (.int .i64 mx)).drew.cell? _ = _ := (World.cell?_setCell_other W ⟨g, 0, none⟩ ⟨b1, off1 + i, none⟩ (.int .i64 mx) (fun e => by injection e; omega)).trans hd1
            have hd2 : (W.setCell ⟨g, 0, none⟩ (.int .i64 mx)).drew.cell? _ = _ := (World.cell?_setCell_other W ⟨g, 0, none⟩ ⟨b2, off2 + i, none⟩ (.int .i64 mx) (fun e => by injection e; omega)).trans hd2
            clear cB fB zB
            generalize (W.setCell ⟨g, 0, none⟩ (.int .i64 mx)).drew = W2 at hK2 hB2 hV2 hd1 hd2 ⊢
            have cB := hK2.cell
            have fB := hK2.frozen
            have zB := hK2.lt
            have HK2 := Lib.hid hK2; have HB2 := Lib.hid hB2; have HV2 := Lib.hid hV2
            clear hK2 hB2 hV2
            go_still_tail 13, (by kernel_rfl)
            go_upto_region 12 with fail
            rw [← HE.out.2]
            have hK3 : Bk (W2.setCell ⟨g, 1, none⟩ (.int .i64 mn)).drew g 27 #[.int .i64 mx, .int .i64 mn, .int .i64 x.c, .int .i64 x.d] := HK2.out.set 1 (.int .i64 mn)
            have hB3 : Below w.heap.size w (W2.setCell ⟨g, 1, none⟩ (.int .i64 mn)).drew := (HB2.out.setCell (p := ⟨g, 1, none⟩) hzw (.int .i64 mn)).drew
            have hV3 : Own 4 r4C 27 (W2.setCell ⟨g, 1, none⟩ (.int .i64 mn)).drew w.heap.size _ _ := HV2.out.keep_at (w' := (W2.setCell ⟨g, 1, none⟩ (.int .i64 mn)).drew) (by simp [World.setCell]) rfl rfl rfl (fun k hk => Below.heap_setCell _ _ _ _ (by have := HZV.out k hk; show k ≠ g; omega))
            clear cB fB zB hd1 hd2
            generalize (W2.setCell ⟨g, 1, none⟩ (.int .i64 mn)).drew = W3 at hK3 hB3 hV3 ⊢
            have cB := hK3.cell
            have fB := hK3.frozen
            have zB := hK3.lt
            have HB3 := Lib.hid hB3; have HV3 := Lib.hid hV3
            have HL := Lib.hid (Own.lit (k := 4) (c := r4C) (B := w.heap.size) W3 27 #[.int .i64 mx, .int .i64 mn, .int .i64 x.c, .int .i64 x.d] 1 [(⟨mx, mn, x.c, x.d⟩ : R4)] (by have := HB3.out.size; omega) rfl (by omega) rfl)
            have HL2 := Lib.hid (HL.out.reads rfl).1
            have HV4 := Lib.hid (HV3.out.alloc (.cells #[.int .i64 mx, .int .i64 mn, .int .i64 x.c, .int .i64 x.d] 27))
            clear hK3 hB3 hV3
            go_wp2_with (first
              | (at_builtin
                 refine wpList_app (k := 4) (c := r4C) _ rfl _ _ _ rfl 27 (.agg (Array.replicate 4 (.int .i64 0))) 32 Tryd.underlying23 (by kernel_rfl) rfl (by decide) (by decide) r4C_one _ _ _ rfl HV4.out _ _ _ _ rfl HL2.out ?hm ?hlen ?hB ?_
                 case hm => rfl
                 case hlen => simp only [List.length_take, List.length_cons, List.length_nil]; omega
                 case hB => rw [World.size_alloc]; have := HB3.out.size; omega
                 intro v4 w4 hown4 hg4 hat4))
            have hrx : rampOne x r y = ⟨mx, mn, x.c, x.d⟩ := by unfold rampOne; rw [HMX.out.1, HMX.out.2]
            refine ⟨⟨i + 1, by go_num, by omega, (fun j hj hji => ?_), ?_, ?_⟩, by simp [intOf]; omega⟩
            · by_cases e : j = i
              · subst e; rw [HX.out.2.1]; omega
              · exact HI.out j hj (by omega)
            · unfold Hid; rw [HGT.out, hrx]; exact hown4
            · have hzz := HB3.out.size
              refine (HB3.out.alloc hzz _).grown hg4 (by rw [World.size_alloc]; omega) (fun k hk => ?_)
              exact (HV.out.blk k hk).1
        · have hq : inB r 0 999 = false := inB_f.2 q
          go_wp2_with (go_at_call 61; refine (l1In_any _ _ _ _).mono ?_; rintro e w' ⟨rfl, rfl⟩)
          go_ret
          have hO := HO.out
          unfold rampOut at hO
          rw [rampB_f.2 (fun hp => q (by have := hp.2.2 rs[i] (List.getElem_mem _); rw [HX.out.2.1] at this; exact this)), if_neg (by simp)] at hO
          subst hO
          refine ⟨_, rfl, Res.empty rfl rfl, ?_⟩
          have hB := HB.out
          (repeat' (first | (with_reducible exact Below.refl _ _) | (with_reducible refine Below.alloc ?_ ?_ _) | (with_reducible refine Below.setCell ?_ ?_ _) | (with_reducible refine Below.drew ?_) | (refine Below.trans ?_ (Below.mono (by with_reducible assumption) ?_)) | go_size))
      · go_wp2
        go_ret
        have hO := HO.out
        unfold rampOut at hO
        rw [rampB_t.2 ⟨HP.out.1, HP.out.2, fun r hr => by
            obtain ⟨j, hj, rfl⟩ := List.mem_iff_getElem.1 hr
            exact HI.out j hj (by have := HM1.out; have := hxl.out; omega)⟩, if_pos rfl] at hO
        have hll : (rampL xs rs ys).length = n := by rw [rampL_len HP.out.2 HP.out.1.2.1]; exact HN.out
        have hV := HV.out.res
        rw [List.take_of_length_le (by omega), hO] at hV
        exact ⟨_, rfl, hV, HB.out⟩
  · have hO := HO.out
    unfold rampOut at hO
    rw [rampB_f.2 (fun h => hp ⟨h.1, h.2.1⟩), if_neg (by simp)] at hO
    subst hO
    have hc : outsB xs ys = false ∨ (outsB xs ys = true ∧ ((rs.length : Int) != (xs.length : Int)) = true) := by
      by_cases h : OutsP xs ys
      · exact .inr ⟨outsB_t.2 h, by rw [bned]; simp; intro he; exact hp ⟨h, by omega⟩⟩
      · exact .inl (outsB_f.2 h)
    clear hp
    rcases hc with hv | ⟨hv, hne⟩
    all_goals
      go_enter Tryd.func28, Tryd.ntmps28
      go_wp2_with fail; ((with_reducible refine (specOutputsValid_any A C c f xs ys _ HRa.out HSa.out hl hl2).mono ?_); rintro e w1 ⟨rfl, hb_2⟩); have hz_2 := hb_2.size; (try simp only [World.size_alloc, World.size_setCell, World.size_drew] at hz_2)
      go_wp2
      go_ret
      refine ⟨_, rfl, Res.empty rfl rfl, ?_⟩; (repeat' (first | (with_reducible exact Below.refl _ _) | (with_reducible refine Below.alloc ?_ ?_ _) | (with_reducible refine Below.setCell ?_ ?_ _) | (with_reducible refine Below.drew ?_) | (refine Below.trans ?_ (Below.mono (by with_reducible assumption) ?_)) | go_size))
end Go.Proofs.YtcpopbkcphpdfaaDoor
