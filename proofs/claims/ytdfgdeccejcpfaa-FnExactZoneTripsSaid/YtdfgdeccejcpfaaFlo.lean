/- The program's flows of all lines. -/
import Derived.Test.YtdfgdeccejcpfaaFl
import Derived.BigRegion
namespace Go.Proofs.Ytdfgdeccejcpfaa
open Go.RowKit Go.Deep
set_option linter.unusedSimpArgs false
set_option linter.unusedVariables false

theorem pow4_65 {k : Nat} (h : k ≤ 8) : (4 : Int) ^ k ≤ 65536 := by
  have h1 : 4 ^ k ≤ 65536 := Nat.le_trans (Nat.pow_le_pow_right (by omega) h) (by decide)
  have e : ((4 ^ k : Nat) : Int) = (4 : Int) ^ k := by push_cast; rfl
  rw [← e]; omega
/-- The two rows of sums, and the tree's own copy. -/
structure FlM (w wr : World) (T : Array Value) (s : List Int × List Int) : Prop where
  rf : RowL iV 0 wr (w.heap.size + 1) 3 s.1
  rw_ : RowL iV 0 wr (w.heap.size + 1 + 1) 3 s.2
  bk : Bk wr w.heap.size 72 T
  bl : Below w.heap.size w wr
theorem FlM.setW {w wr : World} {T : Array Value} {s : List Int × List Int} (h : FlM w wr T s) {b : Nat} (hb : b < s.2.length) (v : Int) : FlM w (wr.setCell ⟨w.heap.size + 1 + 1, b, none⟩ (.int .i64 v)) T (s.1, s.2.set b v) :=
  ⟨h.rf.far (p := ⟨w.heap.size + 1 + 1, b, none⟩) (by show w.heap.size + 1 ≠ w.heap.size + 1 + 1; omega) _, h.rw_.set hb v, h.bk.far (p := ⟨w.heap.size + 1 + 1, b, none⟩) (by show w.heap.size ≠ w.heap.size + 1 + 1; omega) _, h.bl.setCell (p := ⟨w.heap.size + 1 + 1, b, none⟩) (by show w.heap.size ≤ w.heap.size + 1 + 1; omega) _⟩
theorem FlM.setFl {w wr : World} {T : Array Value} {s : List Int × List Int} (h : FlM w wr T s) {b : Nat} (hb : b < s.1.length) (v : Int) : FlM w (wr.setCell ⟨w.heap.size + 1, b, none⟩ (.int .i64 v)) T (s.1.set b v, s.2) :=
  ⟨h.rf.set hb v, h.rw_.far (p := ⟨w.heap.size + 1, b, none⟩) (by show w.heap.size + 1 + 1 ≠ w.heap.size + 1; omega) _, h.bk.far (p := ⟨w.heap.size + 1, b, none⟩) (by show w.heap.size ≠ w.heap.size + 1; omega) _, h.bl.setCell (p := ⟨w.heap.size + 1, b, none⟩) (by show w.heap.size ≤ w.heap.size + 1; omega) _⟩
theorem FlM.drew {w wr : World} {T : Array Value} {s : List Int × List Int} (h : FlM w wr T s) : FlM w wr.drew T s := ⟨h.rf.drew, h.rw_.drew, h.bk, h.bl.drew⟩
theorem FlM.keep {w wr w' : World} {T : Array Value} {s : List Int × List Int} (h : FlM w wr T s) (hb : Below wr.heap.size wr w') : FlM w w' T s := ⟨h.rf.keep hb, h.rw_.keep hb, h.bk.keep hb, h.bl.trans (hb.mono h.bl.size)⟩
set_option maxRecDepth 100000 in
set_option maxHeartbeats 8000000 in
theorem flows_any (n : Nat) (A : Option Addr) (c gF gP : Nat) (oA A2 : Option Addr) (oc c2 : Nat) (ls : List R3) (on : List Bool) (bs : List R2) (F P : List Int) (O : List Nat) (w : World) (hf : FedP n ls on bs) (hT : TreeC w gF gP oA F P O) (hS : TreeS ls on bs bs.length O.length F P O) (hR : Reads 3 r3C w w.heap.size A ls) (hR2 : Reads 2 r2C w w.heap.size A2 bs) :
    Calls Try.prog 54 #[treeV (n : Int) (.slice A ls.length c) gF gP bs.length oA O.length oc, .slice A2 bs.length c2] w (RetS 1 intC 3 w (fpass ls bs P O).1) := by
  have hlens := hf.lens
  obtain ⟨hb8, hb1, hm10, hle, hBn⟩ := hlens
  have HF := Lib.hid hf
  have HT := Lib.hid hT
  have HS := Lib.hid hS
  have HTP := Lib.hid (hS.tree hf.ends).1
  have HR := Lib.hid hR; have HR2 := Lib.hid hR2
  have hO8 : O.length ≤ 8 := by have := hS.short; omega
  have zF0 := hT.rF.lt; have zP0 := hT.rP.lt
  have HLE := Lib.hid hle
  have hnb : bs.length = n := by omega
  have HNB := Lib.hid hnb
  clear hf hT hS hR hR2 hle hBn
  have HPA : Hid (∀ D A', O = A' ++ D → (∀ x, 0 ≤ (fpass ls bs P D).2.getD x 0 ∧ (fpass ls bs P D).2.getD x 0 ≤ 66000000)) := fun D A' e x => by
    have h := (HTP.out.passed HF.out.ends HF.out.load HLE.out A' D e).low x
    have hl : D.length ≤ 8 := by have : O.length = A'.length + D.length := by rw [e, List.length_append]
                                 omega
    have := pow4_65 hl
    omega
  have hmk1 := fun W => run_mk (P := Try.prog) 25 3 (.int .i64 0) 1 8 ls.length Try.underlying25 (by kernel_rfl) (by omega) (by omega) W
  have hmk2 := fun W => run_mk (P := Try.prog) 25 3 (.int .i64 0) 1 8 n Try.underlying25 (by kernel_rfl) (by omega) (by omega) W
  simp only [Nat.mul_one] at hmk1 hmk2
  have HRD : Hid (∀ W, Below w.heap.size w W → Reads 3 r3C W W.heap.size A ls ∧ Reads 2 r2C W W.heap.size A2 bs ∧ TreeC W gF gP oA F P O) := fun W h => ⟨(HR.out.below h (Nat.le_refl _)).more h.size, (HR2.out.below h (Nat.le_refl _)).more h.size, HT.out.keep h⟩
  rw [hnb]
  rw [hnb] at hb8 hb1
  clear hnb
  go_enter Try.func54, Try.ntmps54
  have HM0 : Hid (FlM w (((w.alloc (.cells #[.int .i64 (n : Int), .slice A ls.length c, .slice (some ⟨gF, 0, none⟩) n n, .slice (some ⟨gP, 0, none⟩) n n, .slice oA O.length oc] 72)).alloc (.cells (madeCells #[Value.int .i64 0] ls.length) 3)).alloc (.cells (madeCells #[Value.int .i64 0] n) 3)) #[.int .i64 (n : Int), .slice A ls.length c, .slice (some ⟨gF, 0, none⟩) n n, .slice (some ⟨gP, 0, none⟩) n n, .slice oA O.length oc] (fpass ls bs P (O.drop O.length))) := by
    have e : fpass ls bs P (O.drop O.length) = (List.replicate ls.length 0, List.replicate n 0) := by rw [List.drop_length, ← HNB.out]; rfl
    rw [e]
    have h1 := (RowL.made (f := iV) (d := 0) (w.alloc (.cells #[.int .i64 (n : Int), .slice A ls.length c, .slice (some ⟨gF, 0, none⟩) n n, .slice (some ⟨gP, 0, none⟩) n n, .slice oA O.length oc] 72)) ls.length 3).alloc (.cells (madeCells #[Value.int .i64 0] n) 3)
    have h2 := RowL.made (f := iV) (d := 0) ((w.alloc (.cells #[.int .i64 (n : Int), .slice A ls.length c, .slice (some ⟨gF, 0, none⟩) n n, .slice (some ⟨gP, 0, none⟩) n n, .slice oA O.length oc] 72)).alloc (.cells (madeCells #[Value.int .i64 0] ls.length) 3)) n 3
    rw [World.size_alloc] at h1 h2
    rw [World.size_alloc] at h2
    refine ⟨h1, h2, ((Bk.new _ _ _).alloc _).alloc _, ?_⟩
    (repeat' (first | (with_reducible exact Below.refl _ _) | (with_reducible refine Below.alloc ?_ ?_ _) | (with_reducible refine Below.setCell ?_ ?_ _) | (with_reducible refine Below.drew ?_) | (refine Below.trans ?_ (Below.mono (by with_reducible assumption) ?_)) | go_size))
  go_wp2_with fail
  go_loopw [7] (fun t wr => ∃ j : Nat, t = .int .i64 ((j : Int) - 1) ∧ j ≤ O.length ∧ Hid (FlM w wr #[.int .i64 (n : Int), .slice A ls.length c, .slice (some ⟨gF, 0, none⟩) n n, .slice (some ⟨gP, 0, none⟩) n n, .slice oA O.length oc] (fpass ls bs P (O.drop j)))) (fun t _ => (intOf t + 1).toNat)
  case atStart => exact ⟨O.length, by first | rfl | (congr 1; omega), Nat.le_refl _, HM0⟩
  case round =>
    obtain ⟨j, ht, hj, HM⟩ := hrel
    clear HM0 hmk1 hmk2
    rcases j with _ | q
    · have ht2 := ht.trans (show Value.int .i64 (((0 : Nat) : Int) - 1) = .int .i64 (-1) from rfl)
      clear ht
      subst ht2
      have hfl := fpass_len (ls := ls) (bs := bs) (P := P) O
      rw [List.drop_zero] at HM
      have HX := Lib.hid (HM.out.rf.resI (B := w.heap.size) (c := ls.length) (n := ls.length) (by omega) hfl.1.symm)
      go_wp2_with fail
      go_ret
      exact ⟨_, rfl, HX.out, HM.out.bl⟩
    · have e : ((q + 1 : Nat) : Int) - 1 = (q : Int) := by omega
      rw [e] at ht
      subst ht
      clear e
      have hq : q < O.length := by omega
      have hdr : O.drop q = O[q] :: O.drop (q + 1) := List.drop_eq_getElem_cons hq
      have hO : O = O.take (q + 1) ++ O.drop (q + 1) := (List.take_append_drop _ _).symm
      have hlow := HPA.out _ _ hO
      have hsl := fpass_len (ls := ls) (bs := bs) (P := P) (O.drop (q + 1))
      have hstep : fpass ls bs P (O.drop q) = fstep ls bs P (fpass ls bs P (O.drop (q + 1))) O[q] := by rw [hdr]; rfl
      have hbO : O[q] ∈ O := List.getElem_mem hq
      obtain ⟨ob, oo, rfl, hob, hoc⟩ := (HRD.out _ HM.out.bl).2.2.rO.at1 (i := q) (by simpa using hq)
      rw [natI_get, getD_lt hq] at hoc
      unfold intC at hoc
      generalize O[q] = b at hoc hbO hstep
      have hbB : b < bs.length := HS.out.fedlt ((HS.out.ord b).1 hbO)
      have hbn : b < n := by rw [← HNB.out]; exact hbB
      rw [HNB.out] at hsl
      generalize fpass ls bs P (O.drop (q + 1)) = s at HM hlow hsl hstep
      have HST := Lib.hid hstep; have HLW := Lib.hid hlow
      clear hdr hO hlow hstep
      have hb1' : (b : Int) < (n : Int) := by omega
      have hq1 : (q : Int) < (O.length : Int) := by omega
      have cB := HM.out.bk.cell; have zB := HM.out.bk.lt
      have cW := HM.out.rw_.cell (i := b) (by omega)
      have fW := HM.out.rw_.frozen; have zW := HM.out.rw_.lt
      unfold iV at cW
      obtain ⟨lb, lo, rfl, hlb, hc0, hc1⟩ := (HRD.out _ HM.out.bl).2.1.at2 hbB
      have hla : loadAt bs b = bs[b].b := by unfold loadAt; rw [getD_lt hbB]
      have hld := HF.out.load b
      generalize hzl : bs[b].b = ld at hc1 hla
      rw [hla] at hld
      have HLA := Lib.hid hla
      clear hla hzl hc0
      have hu := HLW.out b
      obtain ⟨u, hu0⟩ : ∃ u, s.2.getD b 0 = u := ⟨_, rfl⟩
      rw [hu0] at cW hu
      have HU := Lib.hid hu0
      clear hu0
      have hw1 : IntKind.i64.wrap (u + ld) = u + ld := IntWalk.i64_in _ (by omega)
      have hsz : w.heap.size + 1 + 1 < wr.heap.size := zW
      go_wp2_with fail
      go_region
      have hsb : b < s.2.length := by rw [hsl.2]; exact hbn
      have HM1 := Lib.hid ((HM.out.setW hsb (u + ld)).drew)
      have hgb : (s.2.set b (u + ld)).getD b 0 = u + ld := by rw [getD_set, if_pos ⟨rfl, hsb⟩]
      have hl2 : (s.2.set b (u + ld)).length = n := by rw [List.length_set]; exact hsl.2
      have hfs : fstep ls bs P s b = if 0 ≤ P.getD b (-1) then (s.1.set (P.getD b (-1)).toNat ((s.2.set b (u + ld)).getD b 0), (s.2.set b (u + ld)).set (oth ls (P.getD b (-1)).toNat b) ((s.2.set b (u + ld)).getD (oth ls (P.getD b (-1)).toNat b) 0 + (s.2.set b (u + ld)).getD b 0)) else (s.1, s.2.set b (u + ld)) := by
        unfold fstep; simp only; rw [HU.out, HLA.out]
      have HFS := Lib.hid hfs; have HGB := Lib.hid hgb; have HL2 := Lib.hid hl2
      have hwa : ∀ x, x ≠ b → (s.2.set b (u + ld)).getD x 0 = s.2.getD x 0 := fun x hx => by rw [getD_set, if_neg (fun e => hx e.1)]
      have HWA := Lib.hid hwa
      clear hfs hgb hl2 hwa cB zB cW fW zW hc1 hoc
      have hsz1 : w.heap.size + 1 + 1 < (wr.setCell ⟨w.heap.size + 1 + 1, b, none⟩ (.int .i64 (u + ld))).drew.heap.size := by simp only [World.size_drew, World.size_setCell]; exact hsz
      generalize (wr.setCell ⟨w.heap.size + 1 + 1, b, none⟩ (.int .i64 (u + ld))).drew = W1 at HM1 hsz1 ⊢
      generalize hs2 : s.2.set b (u + ld) = s2 at HM1 HFS HGB HL2 HWA
      have cB := HM1.out.bk.cell; have zB := HM1.out.bk.lt
      have HTC := Lib.hid (HRD.out _ HM1.out.bl).2.2
      have cP := HTC.out.rP.cell (i := b) (by rw [HS.out.lenP]; exact hbB)
      have zP := HTC.out.rP.lt
      unfold iV at cP
      obtain ⟨p, hp⟩ : ∃ p, P.getD b (-1) = p := ⟨_, rfl⟩
      rw [hp] at cP
      have hfs := HFS.out
      rw [hp] at hfs
      have HFS := Lib.hid hfs
      have HP := Lib.hid hp
      clear hfs hp hs2
      by_cases hp0 : 0 ≤ p
      · obtain ⟨hl1, hl3, hl4, hl5⟩ := HTP.out.line b (by rw [HP.out]; exact hp0)
        rw [HP.out] at hl3 hl4
        obtain ⟨l, hl⟩ : ∃ l : Nat, p = (l : Int) := ⟨p.toNat, by omega⟩
        subst hl
        rw [Int.toNat_natCast] at hl3 hl4
        obtain ⟨hll, hlA, hlB, hlne⟩ := HF.out.ends l hl3
        have hoe := (oth_end hl4 hlne).2.1
        have haB : oth ls l b < n := by rw [HNB.out] at hlA hlB; unfold oth; split <;> assumption
        have hfs := HFS.out
        rw [if_pos hp0, Int.toNat_natCast, HGB.out] at hfs
        have HLE4 := Lib.hid hl4
        obtain ⟨a, ha⟩ : ∃ a, oth ls l b = a := ⟨_, rfl⟩
        rw [ha] at hfs hoe haB
        have HA := Lib.hid ha
        rw [HWA.out a hoe] at hfs
        obtain ⟨ua, hua⟩ : ∃ u, s.2.getD a 0 = u := ⟨_, rfl⟩
        have hub := HLW.out a
        rw [hua] at hfs hub
        have HFF := Lib.hid hfs
        have HUA := Lib.hid hua
        clear hfs ha hua hl1 hl3 hl4 hl5 hlA hlB hlne
        have hl1' : (l : Int) < (ls.length : Int) := by omega
        have cL := HM1.out.rf.cell (i := l) (by rw [show (s.1, s2).1 = s.1 from rfl, hsl.1]; exact hll)
        have fL := HM1.out.rf.frozen
        have cW := HM1.out.rw_.cell (i := b) (by rw [show (s.1, s2).2 = s2 from rfl, HL2.out]; exact hbn)
        rw [show (s.1, s2).2 = s2 from rfl, HGB.out] at cW
        unfold iV at cW cL
        obtain ⟨yl, hyl⟩ : ∃ y, (s.1, s2).1.getD l 0 = y := ⟨_, rfl⟩
        rw [hyl] at cL
        clear hyl
        have HM2 := Lib.hid (HM1.out.setFl (b := l) (by rw [show (s.1, s2).1 = s.1 from rfl, hsl.1]; exact hll) (u + ld))
        have hsz2 : w.heap.size + 1 + 1 < (W1.setCell ⟨w.heap.size + 1, l, none⟩ (.int .i64 (u + ld))).heap.size := by simp only [World.size_setCell]; exact hsz1
        have hab : (a : Int) < (n : Int) := by omega
        go_upto_region 11 with fail
        clear cB zB cP zP cL fL cW
        generalize (W1.setCell ⟨w.heap.size + 1, l, none⟩ (.int .i64 (u + ld))) = W2 at HM2 hsz2 ⊢
        have HTC2 := Lib.hid ((HRD.out _ HM2.out.bl).2.2).drew
        have hrd : Reads 3 r3C W2.drew W2.drew.heap.size A ls := (HRD.out _ HM2.out.bl).1
        have HRL := Lib.hid hrd
        clear hrd
        have cB := HM2.out.bk.cell; have zB := HM2.out.bk.lt
        have cWb := HM2.out.rw_.cell (i := b) (by rw [show (s.1.set l (u + ld), s2).2 = s2 from rfl, HL2.out]; exact hbn)
        have cWa := HM2.out.rw_.cell (i := a) (by rw [show (s.1.set l (u + ld), s2).2 = s2 from rfl, HL2.out]; exact haB)
        rw [show (s.1.set l (u + ld), s2).2 = s2 from rfl] at cWb cWa
        rw [HGB.out] at cWb
        rw [HWA.out a hoe, HUA.out] at cWa
        have fW := HM2.out.rw_.frozen
        unfold iV at cWa cWb
        have hw2 : IntKind.i64.wrap (ua + (u + ld)) = ua + (u + ld) := IntWalk.i64_in _ (by omega)
        go_region_with (first | (go_at_call 57; (refine (above_any (n : Int) A c gF gP n (some ⟨ob, oo, none⟩) O.length oc ls F P O b l _ HF.out.1.1 (by exact HTC2.out) (by exact HS.out.lenP.trans HNB.out) hbn HP.out hll HLE4.out (by exact HRL.out)).mono ?_); rintro e w5 ⟨rfl, hb5⟩; rw [HA.out]; have q1 := keepB hb5 (g := w.heap.size + 1 + 1) (by exact hsz2); have q2 := keepF hb5 (g := w.heap.size + 1 + 1) (by exact hsz2); have q3 := keepB hb5 (g := w.heap.size) (by exact zB); have HB5 := Lib.hid hb5; clear hb5))
        all_goals
          have HM5 : Hid (FlM w (w5.setCell ⟨w.heap.size + 1 + 1, a, none⟩ (.int .i64 (ua + (u + ld)))) #[.int .i64 (n : Int), .slice A ls.length c, .slice (some ⟨gF, 0, none⟩) n n, .slice (some ⟨gP, 0, none⟩) n n, .slice (some ⟨ob, oo, none⟩) O.length oc] (fpass ls bs P (O.drop q))) := by
            unfold Hid; rw [HST.out, HFF.out]
            exact ((HM2.out.drew).keep HB5.out).setW (by rw [show (s.1.set l (u + ld), s2).2 = s2 from rfl, HL2.out]; exact haB) _
          clear q1 q2 q3
          go_wp2_with fail
          exact ⟨⟨q, by first | rfl | go_num, by omega, HM5⟩, by first | (simp [intOf]; done) | (simp [intOf]; omega)⟩
      · have HFF : Hid (FlM w W1 #[.int .i64 (n : Int), .slice A ls.length c, .slice (some ⟨gF, 0, none⟩) n n, .slice (some ⟨gP, 0, none⟩) n n, .slice (some ⟨ob, oo, none⟩) O.length oc] (fpass ls bs P (O.drop q))) := by
          unfold Hid; rw [HST.out, HFS.out, if_neg hp0]; exact HM1.out
        go_wp2_with fail
        exact ⟨⟨q, by first | rfl | go_num, by omega, HFF⟩, by first | (simp [intOf]; done) | (simp [intOf]; omega)⟩
end Go.Proofs.Ytdfgdeccejcpfaa
