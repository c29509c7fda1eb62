/- Drawing chains of relays. -/
import Derived.Test.YtkndokcpnlbipaaDoorRlH
import Derived.Test.YtkndokcpnlbipaaDoorDrL
namespace Go.Proofs.YtkndokcpnlbipaaDoor
open Go.RowKit Go.Deep
set_option linter.unusedSimpArgs false
set_option linter.unusedVariables false
def DrawnGC (w : World) (e : Ending) (w' : World) : Prop := ∃ (v : Value) (ps : List Int) (p d m lo hi : Int), e = .returned (.tuple #[v, .agg #[.int .i64 p, .int .i64 d], .int .i64 m, .int .i64 lo, .int .i64 hi]) ∧ ps.length ≤ 3 ∧ SmR p d ∧ 1 ≤ m ∧ m ≤ 4 ∧ -250 ≤ lo ∧ lo ≤ 400 ∧ -1 ≤ hi ∧ hi ≤ 401 ∧ DrS 1 intC w' w.heap.size v ps ∧ Below w.heap.size w w'
set_option maxRecDepth 100000 in
set_option maxHeartbeats 8000000 in
theorem drawGradeChain_any (A : Option Addr) (c : Nat) (bs : List Int) (w : World) (hR : Reads 1 byteC w w.heap.size A bs) (hb : ∀ x ∈ bs, U8 x) (hl : bs.length ≤ 1048576) (hc : bs.length ≤ c) (hcm : c ≤ 9223372036854775807) :
    Calls Tryd.prog 26 #[.slice A bs.length c] w (DrawnGC w) := by
  have HR := Lib.hid hR; clear hR
  have HB := Lib.hid hb; clear hb
  go_enter Tryd.func26, Tryd.ntmps26
  go_wp2_with fail; ((with_reducible refine (l20Open_any A c bs _ ((HR.out.below (Below.alloc (Below.refl w.heap.size w) (Nat.le_refl _) _) (Nat.le_refl _)).more (by simp)) HB.out hl hc hcm).mono ?_); rintro e w1 ⟨g, rfl, hg, hr1, hb_1⟩); have cB0_1 := keepB hb_1 (g := w.heap.size) (by go_size); have fB0_1 := keepF hb_1 (g := w.heap.size) (by go_size); have zB0_1 := keepZ hb_1 (g := w.heap.size) (by go_size); have hz_1 := hb_1.size; (try simp only [World.size_alloc, World.size_setCell, World.size_drew] at hz_1)
  have hgz := hr1.lt
  have HR1 := Lib.hid hr1; clear hr1
  simp only [World.size_alloc] at hg
  have K0 : Hid (Bk w1 w.heap.size 24 #[.int .i64 0, .int .i64 0]) := (Bk.new w _ _).keep hb_1
  have HB1 : Hid (Below w.heap.size w w1) := by unfold Hid; (repeat' (first | (with_reducible exact Below.refl _ _) | (with_reducible refine Below.alloc ?_ ?_ _) | (with_reducible refine Below.setCell ?_ ?_ _) | (with_reducible refine Below.drew ?_) | (refine Below.trans ?_ (Below.mono (by with_reducible assumption) ?_)) | go_size))
  clear cB0_1 fB0_1 zB0_1 hb_1 hz_1
  go_wp2_with fail
  refine (l20Relay_any g 0 20 _ HR1.out (by omega) (by omega) (by omega)).mono ?_
  rintro e w2 ⟨p, d, rfl, hs, hr2, hc2⟩
  unfold SmR at hs
  obtain ⟨hp0, hp1, hd0, hd1⟩ := hs
  have K0b := Lib.hid (hc2.bk K0.out (by omega))
  have HB2 : Hid (Below w.heap.size w w2) := HB1.out.trans ((hc2.below (by omega)).mono (by omega))
  have HR2 := Lib.hid (hr2.alloc (.cells #[.int .i64 p, .int .i64 d] 24))
  have hz2 := hc2.size
  have hgz2 := hr2.lt
  clear hc2 hr2 HB1 K0 HR1
  have hzk := K0b.out.lt
  have K0c := Lib.hid (K0b.out.alloc (.cells #[.int .i64 p, .int .i64 d] 24))
  have K1 := Lib.hid (Bk.new w2 24 #[.int .i64 p, .int .i64 d])
  have HB3 : Hid (Below w.heap.size w (w2.alloc (.cells #[.int .i64 p, .int .i64 d] 24))) := HB2.out.alloc (by omega) _
  go_wp2_with fail
  generalize hW3 : w2.alloc (.cells #[.int .i64 p, .int .i64 d] 24) = w3 at *
  have hz3 : w3.heap.size = w2.heap.size + 1 := by rw [← hW3]; simp
  clear hW3 K0b HB2
  have c0 : w3.cell? ⟨w2.heap.size, 0, none⟩ = some (.int .i64 p) := by rw [K1.out.cell]; rfl
  have c1 : w3.cell? ⟨w2.heap.size, 1, none⟩ = some (.int .i64 d) := by rw [K1.out.cell]; rfl
  have f1 : ∀ i, w3.frozen? ⟨w2.heap.size, i, none⟩ = false := K1.out.frozen
  go_cut [] (fun wx => ∃ d2 : Int, 0 ≤ d2 ∧ d2 ≤ 61 ∧ Hid (Bk wx w.heap.size 24 #[.int .i64 0, .int .i64 0] ∧ Bk wx w2.heap.size 24 #[.int .i64 p, .int .i64 d2] ∧ RdOk 64 wx g 20 ∧ Below w.heap.size w wx ∧ w3.heap.size ≤ wx.heap.size))
  case first =>
    go_region_with (first | (go_at_call 32; (with_reducible refine (pick_any g (0 + 10) 20 _ (by with_reducible exact HR2.out.below (Below.drew (Below.refl _ _))) (by omega) (by omega)).mono ?_); rintro e w5 ⟨u, rfl, h0u, h1u, hr5, hc5⟩; have cB2 := Chg.cell hc5 (b := w2.heap.size) (by go_size) (by omega); have fB2 := Chg.frozen hc5 (b := w2.heap.size) (by go_size) (by omega); have zB2 : w2.heap.size < w5.heap.size := Nat.lt_of_lt_of_le (by go_size) hc5.size; have hw : IntKind.i64.wrap (1 + u) = 1 + u := IntWalk.i64_in _ (by omega)))
    all_goals
      obtain ⟨mx, hmx⟩ : ∃ mx, (if 1 + u < d then 1 + u else d) = mx := ⟨_, rfl⟩
      have hm0 : 0 ≤ mx ∧ mx ≤ 61 := by rw [← hmx]; split <;> omega
      rw [hmx]
      go_wp2_with fail
      go_meet
      have hk := (hc5.undrew.bk K1.out (by omega)).set 1 (.int .i64 mx)
      refine ⟨mx, hm0.1, hm0.2, (hc5.undrew.bk K0c.out (by omega)).far (p := ⟨w2.heap.size, 1, none⟩) (by simp; omega) _, by simpa using hk, (hr5.set_new (by omega) _).more (by omega), (HB3.out.trans ((hc5.undrew.below (by omega)).mono (by omega))).setCell (by simp; omega) _, by have := hc5.size; simp at this ⊢; omega⟩
  case rest =>
    obtain ⟨d2, hd20, hd21, HK⟩ := hcut
    generalize wc = w4 at *
    clear c0 c1 f1 K0c K1 HB3 HR2
    have HR4 := Lib.hid HK.out.2.2.1
    have hz4 := HK.out.2.2.2.2
    have hgz4 : g < w4.heap.size := by omega
    have hz24 : w2.heap.size < w4.heap.size := by omega
    have hz04 : w.heap.size < w4.heap.size := HK.out.1.lt
    go_wp2_with fail; ((with_reducible refine (pick_any g (20) 4 _ (HR4.out.alloc _) (by omega) (by omega)).mono ?_); rintro e w5 ⟨k0, rfl, h0k0, h1k0, hr_w5, hc_w5⟩); have hz_w5 := hc_w5.size; (try simp only [World.size_alloc, World.size_setCell, World.size_drew] at hz_w5); have HR_w5 := Lib.hid hr_w5; have HC_w5 := Lib.hid hc_w5; clear hr_w5 hc_w5
    have HO : Hid (Own 1 intC 3 w5 w4.heap.size (.slice (some ⟨w4.heap.size, 0, none⟩) 0 0) []) := by
      unfold Hid
      exact (Own.lit (k := 1) (c := intC) (B := w4.heap.size) w4 3 #[] 0 [] (Nat.le_refl _) rfl (by omega) rfl).chg HC_w5.out hgz4
    have HC0 := Lib.hid (((Chg.refl g w4).alloc _).trans HC_w5.out)
    have KA := Lib.hid (HC0.out.bk HK.out.1 (by omega))
    have KB := Lib.hid (HC0.out.bk HK.out.2.1 (by omega))
    have HB4 := Lib.hid HK.out.2.2.2.1
    clear HC_w5 HK HR4
    go_wp2_with fail
    go_loopw [9, 10] (fun t u wr => ∃ (k : Int) (ps : List Int) (vA : Option Addr) (vc : Nat), u = .int .i64 k ∧ 0 ≤ k ∧ k ≤ 3 ∧ t = .slice vA ps.length vc ∧ Hid ((ps.length : Int) + k ≤ 3) ∧ Hid (Bk wr w.heap.size 24 #[.int .i64 0, .int .i64 0]) ∧ Hid (Bk wr w2.heap.size 24 #[.int .i64 p, .int .i64 d2]) ∧ Hid (RdOk 64 wr g (30 - 2 * k)) ∧ Hid (Chg g w4 wr) ∧ Hid (Own 1 intC 3 wr w4.heap.size t ps)) (fun _ u _ => (intOf u).toNat)
    case atStart => exact ⟨k0, [], _, _, rfl, h0k0, by omega, rfl, by unfold Hid; simp; omega, KA, KB, HR_w5.out.more (by omega), HC0, HO⟩
    case round =>
      obtain ⟨k, ps, vA, vc, rfl, hk0, hk1, rfl, HX, KA2, KB2, HR2, HC, HV⟩ := hrel
      clear HO HC0 HR_w5 hz_w5 KA KB
      have hzw := HC.out.size
      have hgz : g < wr.heap.size := by omega
      have hzb2 : w2.heap.size < wr.heap.size := by omega
      have hzb0 : w.heap.size < wr.heap.size := by omega
      have HBLK := Lib.hid HV.out.blk
      generalize hll : ps.length = ll at HX HBLK HV ⊢
      have HLL := Lib.hid hll; clear hll
      have hxl : ps.length ≤ 3 := by have := HX.out; have := HLL.out; omega
      have c0 : wr.cell? ⟨w2.heap.size, 0, none⟩ = some (.int .i64 p) := by rw [KB2.out.cell]; rfl
      by_cases hk : 0 < k
      · have e1 : IntKind.i64.wrap (8 * k) = 8 * k := IntWalk.i64_in _ (by omega)
        have e2 : IntKind.i64.wrap (p + 8 * k) = p + 8 * k := IntWalk.i64_in _ (by omega)
        go_wp2_with fail
        go_region_held3 (fun w' => w'.cell? ⟨w2.heap.size, 0, none⟩ = some (.int .i64 p)) (simp [go_sem, World.cell?_alloc_past, *])
          (first
            | (go_at_call 32; (with_reducible refine (pick_any g (30 - 2 * k) 8 _ (by with_reducible exact HR2.out.below (Below.drew (Below.refl _ _))) (by omega) (by omega)).mono ?_); rintro e wa ⟨u1, rfl, h0u1, h1u1, hra, hca⟩; have cA := Chg.cell hca (b := w2.heap.size) (by go_size) (by omega); have zA : w2.heap.size < wa.heap.size := Nat.lt_of_lt_of_le (by go_size) hca.size; have q1 : IntKind.i64.wrap (p + 8 * k + u1) = p + 8 * k + u1 := IntWalk.i64_in _ (by omega))
            | (go_at_call 32; (with_reducible refine (pick_any g (30 - 2 * k + 1) 30 _ (by with_reducible exact hra) (by omega) (by omega)).mono ?_); rintro e wb ⟨u2, rfl, h0u2, h1u2, hrb, hcb⟩; have cBb := Chg.cell hcb (b := w2.heap.size) (by go_size) (by omega); have zB : w2.heap.size < wb.heap.size := Nat.lt_of_lt_of_le (by go_size) hcb.size; have q2 : u2.tdiv 29 = u2 / 29 := Int.tdiv_eq_ediv_of_nonneg h0u2; have q3 : IntKind.i64.wrap (u2 / 29) = u2 / 29 := IntWalk.i64_in _ (by omega); have q4 : IntKind.i64.wrap (u2 / 29 * 20) = u2 / 29 * 20 := IntWalk.i64_in _ (by omega); have q5 : IntKind.i64.wrap (p + 8 * k + u1 - u2 / 29 * 20) = p + 8 * k + u1 - u2 / 29 * 20 := IntWalk.i64_in _ (by omega); have HOb := Lib.hid (Own.chg (Own.chg (Own.drew HV.out) hca (by omega)) hcb (by omega)); have HCC := Lib.hid (HC.out.trans (hca.undrew.trans hcb)); have KAb := Lib.hid (hcb.bk (hca.undrew.bk KA2.out (by omega)) (by omega)); have KBb := Lib.hid (hcb.bk (hca.undrew.bk KB2.out (by omega)) (by omega)); have hzbw : w4.heap.size ≤ wb.heap.size := HCC.out.size; have HRb := Lib.hid hrb; clear hrb)
            | (rw [if_pos (by rfl)]; refine wp_app (k := 1) (c := intC) _ _ _ _ rfl 3 (.int .i64 0) 8 Tryd.underlying41 (by kernel_rfl) rfl (by decide) (by decide) intC_one _ _ _ rfl (Own.alloc HOb.out (.cells #[.int .i64 (p + 8 * k + u1 - u2 / 29 * 20)] 3)) _ _ _ _ rfl ((Own.lit (k := 1) (c := intC) (B := w4.heap.size) wb 3 #[.int .i64 (p + 8 * k + u1 - u2 / 29 * 20)] 1 [p + 8 * k + u1 - u2 / 29 * 20] hzbw rfl (by omega) rfl).reads rfl).1 rfl ?hlen ?hB ?_; (case hlen => (simp only [List.length_cons, List.length_nil]; omega)); (case hB => (simp only [World.size_alloc]; omega)); intro v5 w5' hown5 hg5 hat5; have cB5 : ∀ q, w5'.cell? ⟨w2.heap.size, q, none⟩ = wb.cell? ⟨w2.heap.size, q, none⟩ := fun q => (World.cell?_of_block (a := ⟨w2.heap.size, q, none⟩) (hg5.block w2.heap.size (by simp only [World.size_alloc]; omega) (fun e => by have := (HBLK.out w2.heap.size e.symm).1; omega))).trans (World.cell?_alloc_past _ _ _ zB); have HC5 := Lib.hid ((HCC.out.alloc _).grown hg5 (fun q hq => (HBLK.out q hq).1)); have HR5 := Lib.hid ((HRb.out.alloc (.cells #[.int .i64 (p + 8 * k + u1 - u2 / 29 * 20)] 3)).grown hg5 (fun q hq => by have := (HBLK.out q hq).1; omega)); have KA5 := Lib.hid ((KAb.out.alloc (.cells #[.int .i64 (p + 8 * k + u1 - u2 / 29 * 20)] 3)).grown hg5 (fun e => by have := (HBLK.out _ e.symm).1; omega)); have KB5 := Lib.hid ((KBb.out.alloc (.cells #[.int .i64 (p + 8 * k + u1 - u2 / 29 * 20)] 3)).grown hg5 (fun e => by have := (HBLK.out _ e.symm).1; omega)); have HO5 := Lib.hid hown5; obtain ⟨vA5, vc5, hv5⟩ := hown5.slice; simp only [List.length_append, List.length_cons, List.length_nil, Nat.zero_add, HLL.out] at hv5; subst hv5; clear hown5 hg5 hat5))
        go_wp2_with fail
        have hll := HLL.out
        have hxx := HX.out
        refine ⟨⟨k - 1, ps ++ [p + 8 * k + u1 - u2 / 29 * 20], vA5, vc5, by go_num, by omega, by omega, by simp [hll], by unfold Hid; simp; omega, KA5, KB5, HR5.out.more (by omega), HC5, ?_⟩, by simp [intOf]; omega⟩
        unfold Hid
        exact HO5.out
      · have hk' : k ≤ 0 := by omega
        go_wp2_with fail
        refine (l20Range_any g (30 - 2 * k) _ HR2.out (by omega)).mono ?_
        rintro e w6 ⟨m, lo, hi, rfl, hm0, hm1, hlo0, hlo1, hhi0, hhi1, hr6, hc6⟩
        have KC := Lib.hid (hc6.bk KA2.out (by omega))
        have KD := Lib.hid (hc6.bk KB2.out (by omega))
        have HD6 := Lib.hid (HV.out.chg hc6 (by omega)).drs
        have HB6 : Hid (Below w.heap.size w w6) := HB4.out.trans (((HC.out.trans hc6).below (by omega)).mono (by omega))
        clear hr6 hc6 KA2 KB2 HR2 HC HV c0
        have cB0 := KC.out.cell
        have fB0 := KC.out.frozen
        have c0 : w6.cell? ⟨w2.heap.size, 0, none⟩ = some (.int .i64 p) := by rw [KD.out.cell]; rfl
        have c1 : w6.cell? ⟨w2.heap.size, 1, none⟩ = some (.int .i64 d2) := by rw [KD.out.cell]; rfl
        have n1 : ¬ w.heap.size = w2.heap.size := by omega
        have n2 : ¬ w2.heap.size = w.heap.size := by omega
        have hzk := KC.out.lt
        have q1 : m.tmod 4 = m % 4 := Int.tmod_eq_emod_of_nonneg hm0
        have q2 : IntKind.i64.wrap (1 + m % 4) = 1 + m % 4 := IntWalk.i64_in _ (by omega)
        have q3 : IntKind.i64.wrap (m % 4) = m % 4 := IntWalk.i64_in _ (by omega)
        go_wp2_with fail
        go_region_held3 (fun w' => w'.cell? ⟨w2.heap.size, 0, none⟩ = some (.int .i64 p) ∧ w'.cell? ⟨w2.heap.size, 1, none⟩ = some (.int .i64 d2)) (simp [go_sem, World.cell?_alloc_past, *]) (first | fail)
        all_goals
          have hmm : 1 ≤ 1 + m % 4 ∧ 1 + m % 4 ≤ 4 := by omega
          go_wp2_with fail
          refine bodyPost_ret (by simp [results, Tryd.results26, go_sem, cB0, q1, q2, q3]; try rfl) rfl ?_
          refine ⟨_, ps, p, d2, 1 + m % 4, lo, hi, rfl, by omega, ⟨hp0, hp1, hd20, hd21⟩, hmm.1, hmm.2, hlo0, hlo1, hhi0, hhi1, ?_, ?_⟩
          · have hq := HD6.out
            exact (DrS.kept hq (by simp) (fun b hb hz => by first | rfl | (refine (Below.heap_setCell _ _ _ _ (by simp; omega)).trans ?_; first | rfl | (exact Below.heap_setCell _ _ _ _ (by simp; omega))))).mono (by omega)
          · have hq := HB6.out; have hqz := hq.size
            (repeat' (first | (with_reducible exact Below.refl _ _) | (with_reducible refine Below.alloc ?_ ?_ _) | (with_reducible refine Below.setCell ?_ ?_ _) | (with_reducible refine Below.drew ?_) | (refine Below.trans ?_ (Below.mono (by with_reducible assumption) ?_)) | go_size))
end Go.Proofs.YtkndokcpnlbipaaDoor
