/- The law FnGradeOk: draw and walk. -/
import Derived.Test.YtkndokcpnlbipaaDoorRlH
import Derived.Test.YtkndokcpnlbipaaDoorPkS
import Derived.Test.YtkndokcpnlbipaaDoorRlB
import Derived.Test.YtkndokcpnlbipaaDoorAlive
namespace Go.Proofs.YtkndokcpnlbipaaDoor
open Go.RowKit Go.Deep
set_option linter.unusedSimpArgs false
set_option linter.unusedVariables false
def DrawnGO (w : World) (e : Ending) (w' : World) : Prop := ∃ np nd p d m lo hi : Int, e = .returned (.tuple #[.agg #[.int .i64 np, .int .i64 nd], .agg #[.int .i64 p, .int .i64 d], .int .i64 m, .int .i64 lo, .int .i64 hi]) ∧ SmR p d ∧ -1 ≤ np ∧ np ≤ 420 ∧ 0 ≤ nd ∧ nd ≤ 90 ∧ 0 ≤ m ∧ m ≤ 12 ∧ -250 ≤ lo ∧ lo ≤ 400 ∧ -1 ≤ hi ∧ hi ≤ 401 ∧ Below w.heap.size w w'
/-- The near relay's block is made, and what the others hold. -/
def CutGO (w : World) (b2 g : Nat) (p d : Int) (s9 : Value) (wx : World) : Prop :=
  ∃ (np nd : Int) (g9 : Nat), s9 = .pointer (some ⟨g9, 0, none⟩) ∧ -1 ≤ np ∧ np ≤ 420 ∧ 0 ≤ nd ∧ nd ≤ 90 ∧ b2 < g9 ∧ Bk wx w.heap.size 24 #[.int .i64 0, .int .i64 0] ∧ Bk wx (w.heap.size + 1) 24 #[.int .i64 0, .int .i64 0] ∧ Bk wx b2 24 #[.int .i64 p, .int .i64 d] ∧ Bk wx g9 24 #[.int .i64 np, .int .i64 nd] ∧ RdOk 64 wx g 20 ∧ Below w.heap.size w wx
theorem cutGO_new {w wd : World} {b2 g n : Nat} {p d np nd P : Int} (h1 : -1 ≤ np ∧ np ≤ 420 ∧ 0 ≤ nd ∧ nd ≤ 90) (hn : n = wd.heap.size) (hb : b2 < n) (hz : w.heap.size ≤ wd.heap.size) (hP : P ≤ 20) (k0 : Bk wd w.heap.size 24 #[.int .i64 0, .int .i64 0]) (k1 : Bk wd (w.heap.size + 1) 24 #[.int .i64 0, .int .i64 0]) (k2 : Bk wd b2 24 #[.int .i64 p, .int .i64 d]) (hr : RdOk 64 wd g P) (hB : Below w.heap.size w wd) :
    CutGO w b2 g p d (.pointer (some ⟨n, 0, none⟩)) (wd.alloc (.cells #[.int .i64 np, .int .i64 nd] 24)) :=
  ⟨np, nd, n, rfl, h1.1, h1.2.1, h1.2.2.1, h1.2.2.2, hb, k0.alloc _, k1.alloc _, k2.alloc _, Bk.new_at wd _ _ hn, (hr.alloc _).more hP, hB.alloc hz _⟩
theorem cutGO_set {w wd : World} {b2 g n : Nat} {p d np nd P : Int} (h1 : -1 ≤ np ∧ np ≤ 420 ∧ 0 ≤ nd ∧ nd ≤ 90) (hb : b2 < n) (hw : w.heap.size + 1 < n) (hg : g < n) (hP : P ≤ 20) (kn : Bk wd n 24 #[.int .i64 0, .int .i64 0]) (k0 : Bk wd w.heap.size 24 #[.int .i64 0, .int .i64 0]) (k1 : Bk wd (w.heap.size + 1) 24 #[.int .i64 0, .int .i64 0]) (k2 : Bk wd b2 24 #[.int .i64 p, .int .i64 d]) (hr : RdOk 64 wd g P) (hB : Below w.heap.size w wd) :
    CutGO w b2 g p d (.pointer (some ⟨n, 0, none⟩)) ((wd.setCell ⟨n, 0, none⟩ (.int .i64 np)).setCell ⟨n, 1, none⟩ (.int .i64 nd)) :=
  ⟨np, nd, n, rfl, h1.1, h1.2.1, h1.2.2.1, h1.2.2.2, hb, (k0.far (p := ⟨n, 0, none⟩) (by simp; omega) _).far (p := ⟨n, 1, none⟩) (by simp; omega) _, (k1.far (p := ⟨n, 0, none⟩) (by simp; omega) _).far (p := ⟨n, 1, none⟩) (by simp; omega) _, (k2.far (p := ⟨n, 0, none⟩) (by simp; omega) _).far (p := ⟨n, 1, none⟩) (by simp; omega) _, kn.set2, ((hr.set_new hg _).set_new hg _).more hP, (hB.setCell (by simp; omega) _).setCell (by simp; omega) _⟩
set_option maxRecDepth 100000 in
set_option maxHeartbeats 4000000 in
theorem drawGradeOk_any (A : Option Addr) (c : Nat) (bs : List Int) (w : World) (hR : Reads 1 byteC w w.heap.size A bs) (hb : ∀ x ∈ bs, U8 x) (hl : bs.length ≤ 1048576) (hc : bs.length ≤ c) (hcm : c ≤ 9223372036854775807) :
    Calls Tryd.prog 24 #[.slice A bs.length c] w (DrawnGO w) := by
  have HR := Lib.hid hR; clear hR
  have HB := Lib.hid hb; clear hb
  go_enter Tryd.func24, Tryd.ntmps24
  have HRx : ∀ o o', Reads 1 byteC ((w.alloc o).alloc o') ((w.alloc o).alloc o').heap.size A bs := fun o o' => (HR.out.below (Below.alloc (Below.alloc (Below.refl w.heap.size w) (Nat.le_refl _) _) (by simp) _) (Nat.le_refl _)).more (by simp; omega)
  have HRX := Lib.hid HRx; clear HRx
  go_wp2_with fail; ((with_reducible refine (l20Open_any A c bs _ (HRX.out _ _) HB.out hl hc hcm).mono ?_); rintro e w1 ⟨g, rfl, hg, hr1, hb_1⟩); have cB0_1 := keepB hb_1 (g := w.heap.size) (by go_size); have fB0_1 := keepF hb_1 (g := w.heap.size) (by go_size); have zB0_1 := keepZ hb_1 (g := w.heap.size) (by go_size); have hz_1 := hb_1.size; (try simp only [World.size_alloc, World.size_setCell, World.size_drew] at hz_1)
  have hgz := hr1.lt
  have HR1 := Lib.hid hr1; clear hr1
  simp only [World.size_alloc] at hg
  have K0 : Hid (Bk w1 w.heap.size 24 #[.int .i64 0, .int .i64 0]) := ((Bk.new w _ _).alloc _).keep hb_1
  have K1 : Hid (Bk w1 (w.heap.size + 1) 24 #[.int .i64 0, .int .i64 0]) := (Bk.new_at (w.alloc _) _ _ (by simp)).keep hb_1
  have HB1 : Hid (Below w.heap.size w w1) := by unfold Hid; (repeat' (first | (with_reducible exact Below.refl _ _) | (with_reducible refine Below.alloc ?_ ?_ _) | (with_reducible refine Below.setCell ?_ ?_ _) | (with_reducible refine Below.drew ?_) | (refine Below.trans ?_ (Below.mono (by with_reducible assumption) ?_)) | go_size))
  clear cB0_1 fB0_1 zB0_1 hb_1 hz_1
  go_wp2_with fail
  refine (l20Relay_any g 0 20 _ HR1.out (by omega) (by omega) (by omega)).mono ?_
  rintro e w2 ⟨p, d, rfl, hs, hr2, hc2⟩
  unfold SmR at hs
  obtain ⟨hp0, hp1, hd0, hd1⟩ := hs
  have K0b := Lib.hid (hc2.bk K0.out (by omega))
  have K1b := Lib.hid (hc2.bk K1.out (by omega))
  have HB2 : Hid (Below w.heap.size w w2) := HB1.out.trans ((hc2.below (by omega)).mono (by omega))
  have HR3 := Lib.hid (hr2.alloc (.cells #[.int .i64 p, .int .i64 d] 24))
  have hz2 := hc2.size
  have hgz2 := hr2.lt
  clear hc2 hr2 HB1 K0 K1 HR1
  have hzk := K1b.out.lt
  have K0c := Lib.hid (K0b.out.alloc (.cells #[.int .i64 p, .int .i64 d] 24))
  have K1c := Lib.hid (K1b.out.alloc (.cells #[.int .i64 p, .int .i64 d] 24))
  have K2 := Lib.hid (Bk.new w2 24 #[.int .i64 p, .int .i64 d])
  have HB3 : Hid (Below w.heap.size w (w2.alloc (.cells #[.int .i64 p, .int .i64 d] 24))) := HB2.out.alloc (by omega) _
  go_wp2_with fail
  generalize hW3 : w2.alloc (.cells #[.int .i64 p, .int .i64 d] 24) = w3 at *
  have hz3 : w3.heap.size = w2.heap.size + 1 := by rw [← hW3]; simp
  have hz3' : w2.heap.size < w3.heap.size := by omega
  have hz3g : g < w3.heap.size := by omega
  have HZ3 := Lib.hid hz3
  clear hz3 hW3 K0b K1b HB2
  have c0 : w3.cell? ⟨w2.heap.size, 0, none⟩ = some (.int .i64 p) := by rw [K2.out.cell]; rfl
  have c1 : w3.cell? ⟨w2.heap.size, 1, none⟩ = some (.int .i64 d) := by rw [K2.out.cell]; rfl
  go_cut [9] (fun s9 wx => CutGO w w2.heap.size g p d s9 wx)
  case first =>
    go_region_held3 (fun w' => w'.cell? ⟨w2.heap.size, 0, none⟩ = some (.int .i64 p) ∧ w'.cell? ⟨w2.heap.size, 1, none⟩ = some (.int .i64 d)) (simp [go_sem, World.cell?_alloc_past, *])
      (first
        | (go_at_call 32; (with_reducible refine (pick_same g (0 + 10) 12 _ (by first | (with_reducible exact HR3.out.below (Below.drew (Below.refl _ _))) | (with_reducible exact (HR3.out.alloc _).below (Below.drew (Below.refl _ _)))) (by omega) (by omega)).mono ?_); rintro e wa ⟨⟨u1, rfl, h0u1, h1u1, hra, hca⟩, zAs⟩; have cA := Chg.cell hca (b := w2.heap.size) (by go_size) (by omega); have zA : w2.heap.size < wa.heap.size := Nat.lt_of_lt_of_le (by go_size) hca.size; (try simp only [World.size_alloc, World.size_drew] at zAs); have cAn := fun (i : Nat) h => Chg.cell hca (b := w3.heap.size) h (by omega) i; have fAn := fun (i : Nat) h => Chg.frozen hca (b := w3.heap.size) h (by omega) i; have q1 : IntKind.i64.wrap (p + u1) = p + u1 := IntWalk.i64_in _ (by omega))
        | (go_at_call 32; (with_reducible refine (pick_same g (0 + 10 + 1) 9 _ (by first | (with_reducible exact hra) | (with_reducible exact hra.alloc _)) (by omega) (by omega)).mono ?_); rintro e wb ⟨⟨u2, rfl, h0u2, h1u2, hrb, hcb⟩, zBs⟩; have cBb := Chg.cell hcb (b := w2.heap.size) (by go_size) (by omega); have zB : w2.heap.size < wb.heap.size := Nat.lt_of_lt_of_le (by go_size) hcb.size; (try simp only [World.size_alloc, World.size_drew] at zBs); have cBn := fun (i : Nat) h => Chg.cell hcb (b := w3.heap.size) h (by omega) i; have fBn := fun (i : Nat) h => Chg.frozen hcb (b := w3.heap.size) h (by omega) i; have cBm := fun (i : Nat) h => Chg.cell hcb (b := wa.heap.size) h (by omega) i; have fBm := fun (i : Nat) h => Chg.frozen hcb (b := wa.heap.size) h (by omega) i; have q2 : u2.tdiv 8 = u2 / 8 := Int.tdiv_eq_ediv_of_nonneg h0u2; have q3 : IntKind.i64.wrap (p + u1 - u2 / 8) = p + u1 - u2 / 8 := IntWalk.i64_in _ (by omega); have q4 : IntKind.i64.wrap (u2 / 8) = u2 / 8 := IntWalk.i64_in _ (by omega))
        | (go_at_call 32; (with_reducible refine (pick_same g (0 + 10 + 1 + 1) 20 _ (by first | (with_reducible exact hrb) | (with_reducible exact hrb.alloc _)) (by omega) (by omega)).mono ?_); rintro e wd ⟨⟨u3, rfl, h0u3, h1u3, hrd, hcd⟩, zDs⟩; have cDb := Chg.cell hcd (b := w2.heap.size) (by go_size) (by omega); have zD : w2.heap.size < wd.heap.size := Nat.lt_of_lt_of_le (by go_size) hcd.size; (try simp only [World.size_alloc, World.size_drew] at zDs); have cDn := fun (i : Nat) h => Chg.cell hcd (b := w3.heap.size) h (by omega) i; have fDn := fun (i : Nat) h => Chg.frozen hcd (b := w3.heap.size) h (by omega) i; have cDm := fun (i : Nat) h => Chg.cell hcd (b := wa.heap.size) h (by omega) i; have fDm := fun (i : Nat) h => Chg.frozen hcd (b := wa.heap.size) h (by omega) i; have cDo := fun (i : Nat) h => Chg.cell hcd (b := wb.heap.size) h (by omega) i; have fDo := fun (i : Nat) h => Chg.frozen hcd (b := wb.heap.size) h (by omega) i; have q5 : IntKind.i64.wrap (d + u3) = d + u3 := IntWalk.i64_in _ (by omega)))
    all_goals
      have HCD : Chg g w3 wd := by
        first
          | (with_reducible exact (hca.undrew.trans hcb).trans hcd)
          | (with_reducible exact ((((Chg.refl g w3).alloc _).trans hca.undrew).trans hcb).trans hcd)
          | (with_reducible exact ((hca.undrew.alloc _).trans hcb).trans hcd)
          | (with_reducible exact ((hca.undrew.trans hcb).alloc _).trans hcd)
      have hq : 0 ≤ u2 / 8 ∧ u2 / 8 ≤ 1 := by omega
      have hk0 := HCD.bk K0c.out (by omega)
      have hk1 := HCD.bk K1c.out (by omega)
      have hk2 := HCD.bk K2.out (by omega)
      have hbd : Below w.heap.size w wd := HB3.out.trans ((HCD.below (by omega)).mono (by omega))
      have hzz := HCD.size
      have hn0 : -1 ≤ p + u1 - u2 / 8 ∧ p + u1 - u2 / 8 ≤ 420 ∧ 0 ≤ d + u3 ∧ d + u3 ≤ 90 := by omega
      have hzw := HZ3.out
      have hle : w.heap.size ≤ wd.heap.size := by omega
      have hlw : w.heap.size + 1 < w3.heap.size := by omega
      have hfin : Hid ((w3.heap.size = wd.heap.size → CutGO w w2.heap.size g p d (.pointer (some ⟨w3.heap.size, 0, none⟩)) (wd.alloc (.cells #[.int .i64 (p + u1 - u2 / 8), .int .i64 (d + u3)] 24))) ∧ (Bk wd w3.heap.size 24 #[.int .i64 0, .int .i64 0] → CutGO w w2.heap.size g p d (.pointer (some ⟨w3.heap.size, 0, none⟩)) ((wd.setCell ⟨w3.heap.size, 0, none⟩ (.int .i64 (p + u1 - u2 / 8))).setCell ⟨w3.heap.size, 1, none⟩ (.int .i64 (d + u3))))) :=
        ⟨fun h => cutGO_new hn0 h hz3' hle (by omega) hk0 hk1 hk2 hrd hbd, fun h => cutGO_set hn0 hz3' hlw hz3g (by omega) h hk0 hk1 hk2 hrd hbd⟩
      have hKn : Hid (w3.heap.size = wd.heap.size ∨ Bk wd w3.heap.size 24 #[.int .i64 0, .int .i64 0]) := by
        unfold Hid
        first
          | (right; with_reducible exact hcd.bk (hcb.bk (hca.undrew.bk (Bk.new w3 _ _) (by omega)) (by omega)) (by omega))
          | (right; with_reducible exact hcd.bk (hcb.bk (Bk.new_at wa _ _ (by omega)) (by omega)) (by omega))
          | (right; with_reducible exact hcd.bk (Bk.new_at wb _ _ (by omega)) (by omega))
          | (left; omega)
      clear hrd hca hcb hcd cA zA cAn fAn cBb zB cBn fBn cBm fBm cDb zD cDn fDn cDm fDm cDo fDo hk0 hk1 hk2 hbd HCD
      go_wp2_with fail
      go_meet
      rcases hKn.out with hq1 | hq1
      · first | (with_reducible exact hfin.out.1 hq1) | (exfalso; omega)
      · first | (with_reducible exact hfin.out.2 hq1) | (have hq2 := hq1.lt; exfalso; omega)
  case rest =>
    obtain ⟨np, nd, g9, rfl, hnp0, hnp1, hnd0, hnd1, hg9, hKK⟩ := hcut
    have HK := Lib.hid hKK; clear hKK
    generalize wc = w4 at *
    clear c0 c1 K0c K1c K2 HB3 HR3
    have HR4 := Lib.hid HK.out.2.2.2.2.1
    have hgz4 := HR4.out.lt
    have hk24 := HK.out.2.2.1.lt
    go_wp2_with fail
    refine (l20Range_any g 20 _ HR4.out (by omega)).mono ?_
    rintro e w6 ⟨m, lo, hi, rfl, hm0, hm1, hlo0, hlo1, hhi0, hhi1, hr6, hc6⟩
    have K0 := Lib.hid (hc6.bk HK.out.1 (by omega))
    have K1 := Lib.hid (hc6.bk HK.out.2.1 (by omega))
    have K2 := Lib.hid (hc6.bk HK.out.2.2.1 (by omega))
    have K9 := Lib.hid (hc6.bk HK.out.2.2.2.1 (by omega))
    have HB6 : Hid (Below w.heap.size w w6) := HK.out.2.2.2.2.2.trans ((hc6.below (by omega)).mono (by omega))
    clear hr6 hc6 HK HR4
    have cB0 := K0.out.cell
    have fB0 := K0.out.frozen
    have cB1 := K1.out.cell
    have fB1 := K1.out.frozen
    have c0 : w6.cell? ⟨w2.heap.size, 0, none⟩ = some (.int .i64 p) := by rw [K2.out.cell]; rfl
    have c1 : w6.cell? ⟨w2.heap.size, 1, none⟩ = some (.int .i64 d) := by rw [K2.out.cell]; rfl
    have c2 : w6.cell? ⟨g9, 0, none⟩ = some (.int .i64 np) := by rw [K9.out.cell]; rfl
    have c3 : w6.cell? ⟨g9, 1, none⟩ = some (.int .i64 nd) := by rw [K9.out.cell]; rfl
    have n1 : ¬ w.heap.size = w2.heap.size := by omega
    have n2 : ¬ w.heap.size = g9 := by omega
    have n3 : ¬ w.heap.size + 1 = w2.heap.size := by omega
    have n4 : ¬ w.heap.size + 1 = g9 := by omega
    have n5 : ¬ w2.heap.size = w.heap.size := by omega
    have n6 : ¬ g9 = w.heap.size := by omega
    have n7 : ¬ w2.heap.size = w.heap.size + 1 := by omega
    have n8 : ¬ g9 = w.heap.size + 1 := by omega
    have hzk1 := K1.out.lt
    go_wp2_with fail
    go_region_held3 (fun w' => w'.cell? ⟨w2.heap.size, 0, none⟩ = some (.int .i64 p) ∧ w'.cell? ⟨w2.heap.size, 1, none⟩ = some (.int .i64 d) ∧ w'.cell? ⟨g9, 0, none⟩ = some (.int .i64 np) ∧ w'.cell? ⟨g9, 1, none⟩ = some (.int .i64 nd)) (simp [go_sem, World.cell?_alloc_past, *]) (first | fail)
    all_goals
      go_wp2_with fail
      refine bodyPost_ret (by simp [results, Tryd.results24, go_sem, cB0, cB1]; try rfl) rfl ?_
      refine ⟨np, nd, p, d, m, lo, hi, rfl, ⟨hp0, hp1, hd0, hd1⟩, hnp0, hnp1, hnd0, hnd1, hm0, hm1, hlo0, hlo1, hhi0, hhi1, ?_⟩
      have hq := HB6.out; have hqz := hq.size
      (repeat' (first | (with_reducible exact Below.refl _ _) | (with_reducible refine Below.alloc ?_ ?_ _) | (with_reducible refine Below.setCell ?_ ?_ _) | (with_reducible refine Below.drew ?_) | (refine Below.trans ?_ (Below.mono (by with_reducible assumption) ?_)) | go_size))
end Go.Proofs.YtkndokcpnlbipaaDoor
