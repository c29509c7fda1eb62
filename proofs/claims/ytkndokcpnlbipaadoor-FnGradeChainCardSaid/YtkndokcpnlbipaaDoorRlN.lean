/- The law FnGradeChain: its walk. -/
import Derived.Test.YtkndokcpnlbipaaDoorRlM
import Derived.Test.YtkndokcpnlbipaaDoorRlL
import Derived.Test.YtkndokcpnlbipaaDoorRlQ
import Derived.Test.YtkndokcpnlbipaaDoorRlB
import Derived.Test.YtkndokcpnlbipaaDoorAlive
namespace Go.Proofs.YtkndokcpnlbipaaDoor
open Go.RowKit Go.Deep
set_option linter.unusedSimpArgs false
set_option linter.unusedVariables false
theorem implGradeChain_n (A : Option Addr) (n c : Nat) (ps : List Int) (fp fd m lo hi : Int) (w : World) (hn : ps.length = n) (hR : Reads 1 intC w w.heap.size A ps) (hl : n ≤ 1048576) :
    Calls Tryd.prog 27 #[.slice A n c, .agg #[.int .i64 fp, .int .i64 fd], .int .i64 m, .int .i64 lo, .int .i64 hi] w (RetC 24 w (gchO ps fp fd m lo hi)) := by
  subst hn; exact implGradeChain_any A c ps fp fd m lo hi w hR hl
theorem specGradeChain_n (A : Option Addr) (n c : Nat) (ps : List Int) (fp fd m lo hi : Int) (w : World) (hn : ps.length = n) (hR : Reads 1 intC w w.heap.size A ps) (hl : n ≤ 1048576) :
    Calls Tryd.prog 28 #[.slice A n c, .agg #[.int .i64 fp, .int .i64 fd], .int .i64 m, .int .i64 lo, .int .i64 hi] w (RetC 24 w (gchO ps fp fd m lo hi)) := by
  subst hn; exact specGradeChain_any A c ps fp fd m lo hi w hR hl
theorem sameRelays_n (A B : Option Addr) (n m c d : Nat) (xs : List R2) (w : World) (hn : xs.length = n) (hm : xs.length = m) (hA : Reads 2 r2C w w.heap.size A xs) (hB : Reads 2 r2C w w.heap.size B xs) (hl : xs.length ≤ 1048576) :
    Calls Tryd.prog 29 #[.slice A n c, .slice B m d] w fun e w' => e = .returned (.bool true) ∧ Below w.heap.size w w' := by
  subst hn; subst hm; exact sameRelays_any A B c d xs w hA hB hl
/-- A list that was returned: its slice, and what it reads. -/
theorem Res.open_ {α : Type} {k : Nat} {c : α → Nat → Value} {T : TypeId} {w : World} {B : Nat} {v : Value} {xs : List α} (h : Res k c T w B v xs) : ∃ A cp, v = .slice A xs.length cp ∧ Reads k c w w.heap.size A xs := by
  obtain ⟨A, cp, e, h'⟩ := h
  refine ⟨A, cp, e, ?_⟩
  subst e
  exact (Res.reads (T := T) (B := B) ⟨A, cp, rfl, h'⟩).1
set_option maxRecDepth 100000 in
set_option maxHeartbeats 8000000 in
theorem fnGradeChain_any (A : Option Addr) (n c : Nat) (bs : List Int) (w : World) (hn : bs.length = n) (hb : ∀ x ∈ bs, U8 x) (hc : n ≤ c) (hcm : c ≤ maxLen) (hR : Reads 1 byteC w w.heap.size A bs) :
    Calls Tryd.prog 8 #[.slice A n c] w fun e w' => e = .returned (.bool true) ∧ Below w.heap.size w w' := by
  unfold maxLen at hcm
  subst hn
  have HR := Lib.hid hR; clear hR
  have HB := Lib.hid hb; clear hb
  have HB_w : Hid (Below w.heap.size w w) := Below.refl _ _
  have hbb : ∀ x : Bool, (x != x) = false := fun x => by simp
  have hnn : ∀ x : Int, (x != x) = false := fun x => by simp
  by_cases hl : ¬ bs.length ≤ 1048576
  · have hl' : (1048576 : Int) < bs.length := by omega
    go_enter Tryd.func8, Tryd.ntmps8
    go_wp2_with fail
    go_ret
    exact ⟨rfl, Below.refl _ _⟩
  have hl : bs.length ≤ 1048576 := by omega
  have hl' : ¬ (1048576 : Int) < bs.length := by omega
  go_enter Tryd.func8, Tryd.ntmps8
  go_wp2_with fail; ((with_reducible refine (drawGradeChain_any A c bs w HR.out HB.out hl hc hcm).mono ?_); rintro e w1 ⟨v, ps, p, d, m, lo, hi, rfl, hpl, hs, hm0, hm1, hlo0, hlo1, hhi0, hhi1, hd, hb_w1⟩); have HB_w1 : Hid (Below w.heap.size w w1) := HB_w.out.trans (hb_w1.mono HB_w.out.size); clear hb_w1
  clear hs
  have hd' := hd
  obtain ⟨A1, cp1, rfl, hcap1, hcap2, _⟩ := hd
  have HP := Lib.hid hd'.reads.1
  clear hd'
  generalize hn : ps.length = n at hpl hcap1 ⊢
  have HN := Lib.hid hn; clear hn
  obtain ⟨o, ho⟩ : ∃ o, gchO ps p d m lo hi = o := ⟨_, rfl⟩
  have HPa : Hid (Reads 1 intC (w1.alloc (.cells #[.int .i64 p, .int .i64 d] 24)) (w1.alloc (.cells #[.int .i64 p, .int .i64 d] 24)).heap.size A1 ps) := (HP.out.below (Below.alloc (Below.refl _ _) (Nat.le_refl _) _) (Nat.le_refl _)).more (by simp)
  have hi1 := fun W hr => implGradeChain_n A1 n cp1 ps p d m lo hi W HN.out hr (by omega)
  have hs1 := fun W hr => specGradeChain_n A1 n cp1 ps p d m lo hi W HN.out hr (by omega)
  rw [ho] at hi1 hs1
  have HI := Lib.hid hi1; have HS := Lib.hid hs1; clear hi1 hs1
  go_wp2_with fail; ((with_reducible refine (HI.out _ HPa.out).mono ?_); rintro e w2 ⟨v2, rfl, hr2, hb_30⟩); have cB0_30 := keepB hb_30 (g := w1.heap.size) (by go_size); have fB0_30 := keepF hb_30 (g := w1.heap.size) (by go_size); have zB0_30 := keepZ hb_30 (g := w1.heap.size) (by go_size); have hz_30 := hb_30.size; (try simp only [World.size_alloc, World.size_setCell, World.size_drew] at hz_30)
  obtain ⟨A2, c2, rfl, hrd2⟩ := hr2.open_
  clear hr2
  have HPb : Hid (Reads 1 intC w2 w2.heap.size A1 ps) := (HPa.out.below hb_30 (Nat.le_refl _)).more hb_30.size
  have HL2 := Lib.hid hrd2; clear hrd2
  have HB2 : Hid (Below w.heap.size w w2) := by unfold Hid; have hq := HB_w1.out; have hqz := hq.size; (repeat' (first | (with_reducible exact Below.refl _ _) | (with_reducible refine Below.alloc ?_ ?_ _) | (with_reducible refine Below.setCell ?_ ?_ _) | (with_reducible refine Below.drew ?_) | (refine Below.trans ?_ (Below.mono (by with_reducible assumption) ?_)) | go_size))
  have K0 : Hid (Bk w2 w1.heap.size 24 #[.int .i64 p, .int .i64 d]) := (Bk.new w1 _ _).keep hb_30
  clear cB0_30 fB0_30 zB0_30 hb_30 hz_30 HPa HP
  have cBz := K0.out.cell
  have zBz := K0.out.lt
  obtain ⟨n2, hn2⟩ : ∃ n2, (o.getD []).length = n2 := ⟨_, rfl⟩
  rw [hn2]
  have HN2 := Lib.hid hn2; clear hn2
  go_wp2_with fail; ((with_reducible refine (HS.out _ HPb.out).mono ?_); rintro e w3 ⟨v3, rfl, hr3, hb_31⟩); have cB0_31 := keepB hb_31 (g := w1.heap.size) (by go_size); have fB0_31 := keepF hb_31 (g := w1.heap.size) (by go_size); have zB0_31 := keepZ hb_31 (g := w1.heap.size) (by go_size); have hz_31 := hb_31.size; (try simp only [World.size_alloc, World.size_setCell, World.size_drew] at hz_31)
  obtain ⟨A3, c3, rfl, hrd3⟩ := hr3.open_
  clear hr3 cBz zBz
  rw [HN2.out]
  have HPc : Hid (Reads 1 intC w3 w3.heap.size A1 ps) := (HPb.out.below hb_31 (Nat.le_refl _)).more hb_31.size
  have HL2c : Hid (Reads 2 r2C w3 w3.heap.size A2 (o.getD [])) := (HL2.out.below hb_31 (Nat.le_refl _)).more hb_31.size
  have HL3 := Lib.hid hrd3; clear hrd3
  have HB3 : Hid (Below w.heap.size w w3) := HB2.out.trans (hb_31.mono HB2.out.size)
  have K1 := Lib.hid (K0.out.keep hb_31)
  clear cB0_31 fB0_31 zB0_31 hb_31 hz_31 HPb HL2 K0 HB2 HI HS
  have hol : (o.getD []).length ≤ 1048576 := by
    rw [← ho]; unfold gchO
    split
    · cases hg : gch p d m lo hi ps with
      | none => simp
      | some acc => have := gch_len hg; have := HN.out; simp; omega
    · simp
  have HSR : Hid (∀ W, Reads 2 r2C W W.heap.size A2 (o.getD []) → Reads 2 r2C W W.heap.size A3 (o.getD []) → Calls Tryd.prog 29 #[.slice A2 n2 c2, .slice A3 n2 c3] W fun e w' => e = .returned (.bool true) ∧ Below W.heap.size W w') := fun W h1 h2 => sameRelays_n A2 A3 n2 n2 c2 c3 (o.getD []) W HN2.out HN2.out h1 h2 hol
  clear hol
  go_wp2_with fail; ((with_reducible refine (HSR.out _ HL2c.out HL3.out).mono ?_); rintro e w4 ⟨rfl, hb_32⟩); have hz_32 := hb_32.size; (try simp only [World.size_alloc, World.size_setCell, World.size_drew] at hz_32)
  have HP := Lib.hid ((HPc.out.below hb_32 (Nat.le_refl _)).more hb_32.size)
  have HL := Lib.hid ((HL2c.out.below hb_32 (Nat.le_refl _)).more hb_32.size)
  have HB4 : Hid (Below w.heap.size w w4) := HB3.out.trans (hb_32.mono HB3.out.size)
  have K2 := Lib.hid (K1.out.keep hb_32)
  clear hb_32 hz_32 HPc HL2c HL3 K1 HB3 HSR
  have HO := Lib.hid ho; clear ho
  cases o with
  | none =>
    have h0 : n2 = 0 := HN2.out.symm
    subst h0
    go_wp2_with fail; ((with_reducible refine (alive_any _).mono ?_); rintro e w5 ⟨rfl, hb_33⟩); have hz_33 := hb_33.size; (try simp only [World.size_alloc, World.size_setCell, World.size_drew] at hz_33)
    go_wp2_with fail
    go_ret
    exact ⟨rfl, HB4.out.trans (hb_33.mono HB4.out.size)⟩
  | some acc =>
    have hch : ChainP ps p d m lo hi acc ∧ n < 10 := by
      have h := HO.out
      unfold gchO at h
      split at h
      · rename_i hc; exact ⟨gch_chain h, by have := HN.out; omega⟩
      · cases h
    obtain ⟨hch, hn10⟩ := hch
    have hlen : acc.length = n + 1 := by rw [hch.1, HN.out]
    have h2 : n2 = n + 1 := by have := HN2.out; simp at this; omega
    subst h2
    have HCH := Lib.hid hch
    have HLN := Lib.hid hlen
    have hx : n < acc.length := by omega
    obtain ⟨b, off, rfl, hb, hc0, hc1⟩ := Reads.at2 (show Reads 2 r2C w4 w4.heap.size A2 acc from HL.out) hx
    have hlast : acc[n] = ⟨p, d⟩ := by rw [getD_get hx, ← HN.out]; exact hch.2.1
    rw [hlast] at hc0 hc1
    clear hch hlen hlast
    have HLL : Hid (Reads 2 r2C w4 w4.heap.size (some ⟨b, off, none⟩) acc) := HL.out
    clear HL HO HN2
    have cB := K2.out.cell
    have zB := K2.out.lt
    have hnn1 : ((n : Int) + 1 != (n : Int) + 1) = false := hnn _
    have hwn : IntKind.i64.wrap ((n : Int) + 1) = (n : Int) + 1 := IntWalk.i64_in _ (by omega)
    have hp1 : (p == p) = true := by simp
    have hd1 : (d == d) = true := by simp
    go_wp2_with fail
    go_quiet (fail)
    clear hp1 hd1 hc0 hc1 cB zB
    go_wp2_with fail
    go_loopw [12] (fun t12 wr => ∃ cu : Int, t12 = .int .i64 cu ∧ lo ≤ cu ∧ cu ≤ 402 ∧ Hid (Below w4.heap.size w4 wr)) (fun t12 _ => (402 - intOf t12).toNat)
    case atStart => exact ⟨lo, rfl, by omega, by omega, below_drewN' (Below.refl _ _) _⟩
    case round =>
      obtain ⟨cu, rfl, hc0, hc1, HBr⟩ := hrel
      by_cases hcu : cu ≤ hi
      · by_cases hn0 : n = 0
        · have hz : ¬ (0 : Int) < (n : Int) := by omega
          have hz1 : decide ((0 : Int) < (n : Int)) = false := by simp [hn0]
          clear hn0
          go_wp2_with fail
          go_ret
          exact ⟨rfl, HB4.out.trans (HBr.out.mono HB4.out.size)⟩
        · have hnp : (0 : Int) < (n : Int) := by omega
          have htrip := HCH.out.trip (by rw [HN.out]; omega) (by rw [HN.out]; omega) hc0 hcu
          rw [HN.out] at htrip
          have HTR := Lib.hid htrip; clear htrip
          have HFT : Hid (∀ W, Reads 2 r2C W W.heap.size (some ⟨b, off, none⟩) acc → Calls Tryd.prog 17 #[.slice (some ⟨b, off, none⟩) (n + 1) c2, .int .i64 cu] W fun e w' => ∃ f : Int, e = .returned (.int .i64 f) ∧ (f = -1 ∨ f = n) ∧ Below W.heap.size W w') := fun W h =>
            (implFirstTrip_any (some ⟨b, off, none⟩) (n + 1) c2 acc cu W HLN.out h (by omega)).mono (fun e w' hh => by
              obtain ⟨x, he, hx, hb⟩ := hh
              refine ⟨x, he, ?_, hb⟩
              rcases HTR.out with ht | ht
              · exact .inl (hx.uniq ht)
              · exact .inr (hx.uniq ht))
          have HLr : Hid (Reads 2 r2C wr wr.heap.size (some ⟨b, off, none⟩) acc) := (HLL.out.below HBr.out (Nat.le_refl _)).more HBr.out.size
          go_wp2_with fail; ((with_reducible refine (HFT.out _ HLr.out).mono ?_); rintro e w5 ⟨f, rfl, hf, hb_34⟩); have hz_34 := hb_34.size; (try simp only [World.size_alloc, World.size_setCell, World.size_drew] at hz_34)
          have HB5 : Hid (Below w4.heap.size w4 w5) := HBr.out.trans (hb_34.mono HBr.out.size)
          clear hb_34 hz_34 HFT HLr HBr HTR
          have hn1 : ((n : Int) != -1) = true := by rw [bne_iff_ne]; omega
          clear hn0
          rcases hf with rfl | rfl
          all_goals
            go_wp2_with fail
            go_loopw [14] (fun t14 wq => ∃ k : Nat, t14 = .int .i64 k ∧ k ≤ n ∧ Hid (Below w4.heap.size w4 wq)) (fun t14 _ => n - (intOf t14).toNat)
            case atStart => exact ⟨0, rfl, Nat.zero_le _, HB5⟩
            case round =>
              obtain ⟨k, rfl, hk, HBq⟩ := hrel
              clear HB5
              by_cases hkn : k < n
              · have hx0 : k < acc.length := by rw [HLN.out]; omega
                have hx1 : k + 1 < acc.length := by rw [HLN.out]; omega
                have hxp : k < ps.length := by rw [HN.out]; exact hkn
                obtain ⟨b2, off2, e2, hbz, ha0, ha1⟩ := HLL.out.at2 hx0
                injection e2 with e2; injection e2 with e3 e4; subst e3 e4
                obtain ⟨b3, off3, e2, _, hy0, hy1⟩ := HLL.out.at2 hx1
                injection e2 with e2; injection e2 with e3 e4; subst e3 e4
                obtain ⟨bp, op, rfl, hbp, hp0⟩ := HP.out.at1 hxp
                have hp0 : w4.cell? ⟨bp, op + k, none⟩ = some (.int .i64 ps[k]) := hp0
                have hpk : acc[k].a = ps[k] := by
                  have := (HCH.out.2.2 k hxp).1
                  rw [← getD_get hx0] at this
                  rw [this, List.getD_eq_getElem?_getD, List.getElem?_eq_getElem hxp]; rfl
                have hst := HCH.out.step hxp hc0 hcu
                rw [← getD_get hx0, ← getD_get hx1] at hst
                rw [← hpk] at hp0
                clear hpk
                have ha0 := (HBq.out.cell (p := ⟨b, off + k * 2, none⟩) hbz).trans ha0
                have ha1 := (HBq.out.cell (p := ⟨b, off + k * 2 + 1, none⟩) hbz).trans ha1
                have hy0 := (HBq.out.cell (p := ⟨b, off + (k + 1) * 2, none⟩) hbz).trans hy0
                have hy1 := (HBq.out.cell (p := ⟨b, off + (k + 1) * 2 + 1, none⟩) hbz).trans hy1
                have hp0 := (HBq.out.cell (p := ⟨bp, op + k, none⟩) hbp).trans hp0
                generalize acc[k] = x at ha0 ha1 hp0 hst
                generalize acc[k + 1] = y at hy0 hy1 hst
                have hb1 := srt_bd (p := x.a) (d := x.b) (c := cu)
                have hb2 := srt_bd (p := y.a) (d := y.b) (c := cu)
                obtain ⟨T, hT⟩ : ∃ T, srt x.a x.b cu = T := ⟨_, rfl⟩
                obtain ⟨U, hU⟩ : ∃ U, srt y.a y.b cu = U := ⟨_, rfl⟩
                have HRT : Hid (∀ W : World, Calls Tryd.prog 10 #[.agg #[.int .i64 x.a, .int .i64 x.b], .int .i64 cu] W fun e w' => e = .returned (.int .i64 T) ∧ Below W.heap.size W w') := fun W => by rw [← hT]; exact implRelayTime_any _ _ _ _
                have HRU : Hid (∀ W : World, Calls Tryd.prog 10 #[.agg #[.int .i64 y.a, .int .i64 y.b], .int .i64 cu] W fun e w' => e = .returned (.int .i64 U) ∧ Below W.heap.size W w') := fun W => by rw [← hU]; exact implRelayTime_any _ _ _ _
                rw [hT] at hst hb1
                rw [hU] at hst hb2
                clear hT hU
                have hxx : (x.a != x.a) = false := hnn _
                have hk1 : (k : Int) < (n : Int) := by omega
                have hk2 : (k : Int) + 1 < (n : Int) + 1 := by omega
                have hk3 : (k : Int) < (n : Int) + 1 := by omega
                have hk4 : (0 : Int) ≤ (k : Int) + 1 := by omega
                have hk5 : IntKind.i64.wrap ((k : Int) + 1) = (k : Int) + 1 := IntWalk.i64_in _ (by omega)
                have hk6 : ((k : Int) + 1).toNat = k + 1 := by omega
                have hbw : b < wr.heap.size := Nat.lt_of_lt_of_le hbz HBq.out.size
                have hbpw : bp < wr.heap.size := Nat.lt_of_lt_of_le hbp HBq.out.size
                go_wp2_with fail; ((with_reducible refine (HRT.out _).mono ?_); rintro e w6 ⟨rfl, hb_35⟩); have cB0_35 := keepB hb_35 (g := b) (by go_size); have fB0_35 := keepF hb_35 (g := b) (by go_size); have zB0_35 := keepZ hb_35 (g := b) (by go_size); have cB1_35 := keepB hb_35 (g := bp) (by go_size); have fB1_35 := keepF hb_35 (g := bp) (by go_size); have zB1_35 := keepZ hb_35 (g := bp) (by go_size); have hz_35 := hb_35.size; (try simp only [World.size_alloc, World.size_setCell, World.size_drew] at hz_35)
                have HB6 : Hid (Below w4.heap.size w4 w6) := HBq.out.trans (hb_35.mono HBq.out.size)
                clear hb_35
                by_cases h0 : 0 ≤ T
                · obtain ⟨hu0, hu1⟩ := hst h0
                  have hw1 : IntKind.i64.wrap (U + m) = U + m := IntWalk.i64_in _ (by omega)
                  clear hst
                  have g0 := (cB0_35 (off + k * 2)).trans ha0
                  have g1 := (cB0_35 (off + (k + 1) * 2)).trans hy0
                  have g2 := (cB0_35 (off + (k + 1) * 2 + 1)).trans hy1
                  have g3 := (cB1_35 (op + k)).trans hp0
                  clear cB0_35 cB1_35 ha0 ha1 hy0 hy1 hp0 fB0_35 fB1_35
                  go_wp2_with fail
                  go_region_held3 (fun w' => w'.cell? ⟨b, off + k * 2, none⟩ = some (.int .i64 x.a) ∧ w'.cell? ⟨b, off + (k + 1) * 2, none⟩ = some (.int .i64 y.a) ∧ w'.cell? ⟨b, off + (k + 1) * 2 + 1, none⟩ = some (.int .i64 y.b) ∧ w'.cell? ⟨bp, op + k, none⟩ = some (.int .i64 x.a)) (simp [go_sem, World.cell?_alloc_past, *])
                    (first | (go_at_call 10; (with_reducible refine (HRU.out _).mono ?_); rintro e w7 ⟨rfl, hb7⟩; have cB := keepB hb7 (g := b) (by go_size); have cBp := keepB hb7 (g := bp) (by go_size); have HB7 : Hid (Below w4.heap.size w4 w7) := HB6.out.trans ((undrew hb7).mono HB6.out.size); clear hb7))
                  all_goals
                    go_wp2_with fail
                    all_goals try (exfalso; omega; done)
                    exact ⟨⟨k + 1, by go_num, by omega, HB7⟩, by simp [intOf]; omega⟩
                · have h0' : decide (0 ≤ T) = false := by simp; omega
                  have h0'' : T < 0 := by omega
                  clear hst h0
                  go_wp2_with fail
                  go_quiet (fail)
                  go_wp2_with fail
                  all_goals try (exfalso; omega; done)
                  exact ⟨⟨k + 1, by go_num, by omega, below_drewN' HB6.out _⟩, by simp [intOf]; omega⟩
              · go_wp2_with fail
                exact ⟨⟨cu + 1, by go_num, by omega, by omega, HBq⟩, by simp [intOf]; omega⟩
      · go_wp2_with fail
        go_ret
        exact ⟨rfl, HB4.out.trans (HBr.out.mono HB4.out.size)⟩
end Go.Proofs.YtkndokcpnlbipaaDoor
