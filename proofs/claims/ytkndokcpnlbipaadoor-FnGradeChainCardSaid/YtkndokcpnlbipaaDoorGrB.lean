/- Relays: a chain of them, the reference's. -/
import Derived.Test.YtkndokcpnlbipaaDoorGrA
namespace Go.Proofs.YtkndokcpnlbipaaDoor
open Go.RowKit
set_option linter.unusedSimpArgs false
set_option linter.unusedVariables false

set_option maxHeartbeats 2000000 in
theorem specGradeChain_any (A : Option Addr) (c : Nat) (ps : List Int) (fp fd m lo hi : Int) (w : World) (hR : Reads 1 intC w w.heap.size A ps) (hl : ps.length ≤ 1048576) :
    Calls Tryd.prog 28 #[.slice A ps.length c, .agg #[.int .i64 fp, .int .i64 fd], .int .i64 m, .int .i64 lo, .int .i64 hi] w (RetC 24 w (gchO ps fp fd m lo hi)) := by
  by_cases hv : relV fp fd = true ∧ ps.length < 10
  · obtain ⟨hv1, hv2⟩ := hv
    have hO : gchO ps fp fd m lo hi = gch fp fd m lo hi ps := by unfold gchO; rw [if_pos ⟨hv1, hv2⟩]
    rw [hO]; clear hO
    have HR := Lib.hid hR; clear hR
    generalize hn : ps.length = n at hl hv2 ⊢
    have HN := Lib.hid hn; clear hn
    have hn1 : ¬ ((10 : Int) ≤ (n : Int)) := by omega
    go_enter Tryd.func28, Tryd.ntmps28
    go_wp2_with fail; ((with_reducible refine (specRelayValid_any _ _ _).mono ?_); rintro e w1 ⟨rfl, hb_1⟩); have cB0_1 := keepB hb_1 (g := w.heap.size) (by go_size); have fB0_1 := keepF hb_1 (g := w.heap.size) (by go_size); have zB0_1 := keepZ hb_1 (g := w.heap.size) (by go_size); have cB1_1 := keepB hb_1 (g := w.heap.size + 1) (by go_size); have fB1_1 := keepF hb_1 (g := w.heap.size + 1) (by go_size); have zB1_1 := keepZ hb_1 (g := w.heap.size + 1) (by go_size); have hz_1 := hb_1.size; (try simp only [World.size_alloc, World.size_setCell, World.size_drew] at hz_1)
    have HB1 : Hid (Below w.heap.size w w1) := by unfold Hid; (repeat' (first | (with_reducible exact Below.refl _ _) | (with_reducible refine Below.alloc ?_ ?_ _) | (with_reducible refine Below.setCell ?_ ?_ _) | (with_reducible refine Below.drew ?_) | (refine Below.trans ?_ (Below.mono (by with_reducible assumption) ?_)) | go_size))
    have HO : Hid (Own 2 r2C 24 w1 (w.heap.size + 1) (.slice (some ⟨w.heap.size + 1, 0, none⟩) 1 1) [⟨fp, fd⟩]) := by
      unfold Hid
      have h0 := Own.lit (k := 2) (c := r2C) (B := w.heap.size + 1) (w.alloc (.cells #[.int .i64 fp, .int .i64 fd] 24)) 24 #[.int .i64 fp, .int .i64 fd] 1 [(⟨fp, fd⟩ : R2)] (by simp) rfl (by omega) rfl
      simp only [World.size_alloc] at h0
      exact h0.keep hb_1
    clear cB0_1 fB0_1 zB0_1 cB1_1 fB1_1 zB1_1
    go_wp2_with fail
    go_loopw [12, 13] (fun t u wr => ∃ (j : Nat) (acc : List R2), u = .int .i64 ((j : Int) - 1) ∧ j ≤ n ∧ Hid (gch fp fd m lo hi (ps.drop j) = some acc) ∧
        Hid (Own 2 r2C 24 wr (w.heap.size + 1) t acc) ∧ Hid (Below w.heap.size w wr)) (fun _ u _ => (intOf u + 1).toNat)
    case atStart =>
      refine ⟨n, [⟨fp, fd⟩], rfl, Nat.le_refl _, ?_, HO, HB1⟩
      unfold Hid; rw [List.drop_of_length_le (by rw [HN.out]; exact Nat.le_refl _)]; rfl
    case round =>
      obtain ⟨j, acc, ht, hj, HG, HV, HB⟩ := hrel
      clear HO HB1 hb_1 hz_1
      have hlen := gch_len HG.out
      obtain ⟨x, acc, rfl⟩ : ∃ x acc', acc = x :: acc' := by
        rcases acc with _ | ⟨x, acc⟩
        · simp at hlen
        · exact ⟨x, acc, rfl⟩
      have hal : (x :: acc).length ≤ 10 := by rw [hlen, List.length_drop, HN.out]; omega
      obtain ⟨vA, vc, hvv⟩ := HV.out.slice
      have hrd := (HV.out.reads hvv).1
      obtain ⟨vb, vo, rfl, hvb, hd0, hd1⟩ := hrd.at2 (i := 0) (by simp)
      have hblk := HV.out.blk vb (by rw [hvv]; rfl)
      have hres := HV.out.res
      rcases j with _ | q
      · have ht2 := ht.trans (show Value.int .i64 (((0 : Nat) : Int) - 1) = .int .i64 (-1) from rfl)
        clear ht
        subst ht2
        clear hd0 hd1 hlen hal hrd hres
        go_wp2
        refine bodyPost_ret (by simp [results, Tryd.results28, go_sem]; try rfl) rfl ?_
        have hG := HG.out
        rw [List.drop_zero] at hG
        rw [hG]
        exact ⟨_, rfl, HV.out.res.mono (by omega), HB.out⟩
      · have e : ((q + 1 : Nat) : Int) - 1 = (q : Int) := by omega
        rw [e] at ht
        subst ht
        clear e
        subst hvv
        have hq : q < ps.length := by rw [HN.out]; omega
        obtain ⟨b, off, rfl, hb, hc⟩ := HR.out.at1 hq
        have hc1 : wr.cell? ⟨b, off + q, none⟩ = some (.int .i64 ps[q]) := (HB.out.cell (p := ⟨b, off + q, none⟩) hb).trans hc
        have hst := gch_step hq rfl HG.out
        obtain ⟨p, hp⟩ : ∃ p, ps[q] = p := ⟨_, rfl⟩
        rw [hp] at hst hc1
        clear hc
        have hdb := leastDial_bd p x.a x.b m lo hi
        obtain ⟨hvb1, hvb2⟩ := hblk
        have hbw : b < wr.heap.size := Nat.lt_of_lt_of_le hb HB.out.size
        have hi1 : (q : Int) < (n : Int) := by omega
        have hi0 : (0 : Int) ≤ (q : Int) := by omega
        rw [List.length_cons] at hal ⊢
        generalize hln : acc.length = l at hal ⊢
        have HLN := Lib.hid hln
        simp only [List.getElem_cons_zero, Nat.zero_mul, Nat.add_zero] at hd0 hd1
        have HD := Lib.hid (And.intro hd0 hd1)
        have HST := Lib.hid hst; have HP := Lib.hid hp
        clear hst hp hlen hrd hres hln
        go_upto_region 7 with fail
        go_cut [14] (fun s14 wx => ∃ g14 : Nat, s14 = .pointer (some ⟨g14, 0, none⟩) ∧ Hid (Bk wx g14 24 #[.int .i64 p, .int .i64 (leastDial p x.a x.b m lo hi)] ∧ wr.heap.size ≤ g14 ∧ Below wr.heap.size wr wx))
        case first =>
          go_region_held3 (fun w' => w'.cell? ⟨b, off + q, none⟩ = some (.int .i64 p) ∧ w'.cell? ⟨vb, vo, none⟩ = some (.int .i64 x.a) ∧ w'.cell? ⟨vb, vo + 1, none⟩ = some (.int .i64 x.b)) (simp [go_sem, World.cell?_alloc_past, *])
            (first | (go_at_call 22; refine (specLeastDial_any _ _ _ _ _ _ _).mono ?_; rintro e w2 ⟨rfl, hb⟩; have cB0 := keepB hb (g := vb) (by go_size); have cB2 := keepB hb (g := b) (by go_size); have zB0 := keepZ hb (g := vb) (by go_size); have zB2 := keepZ hb (g := b) (by go_size); have cB3 := fun h => keepB hb (g := wr.heap.size) h; have fB3 := fun h => keepF hb (g := wr.heap.size) h; have zB3 := fun h => keepZ hb (g := wr.heap.size) h))
          · go_wp2_with fail
            go_meet
            have hb' : Below wr.heap.size wr w2 := undrew hb
            have hzz := hb'.size
            refine ⟨w2.heap.size, rfl, Bk.new _ _ _, hzz, ?_⟩
            (repeat' (first | (with_reducible exact Below.refl _ _) | (with_reducible refine Below.alloc ?_ ?_ _) | (with_reducible refine Below.setCell ?_ ?_ _) | (with_reducible refine Below.drew ?_) | (refine Below.trans ?_ (Below.mono (by with_reducible assumption) ?_)) | go_size))
          · go_wp2_with fail
            go_meet
            have hb' := undrew hb
            refine ⟨wr.heap.size, rfl, (Bk.keep (w := (wr.alloc _).drew) (Bk.new wr _ _) hb).set2, Nat.le_refl _, ?_⟩
            have hb2 := Below.trans (Below.alloc (Below.refl wr.heap.size wr) (Nat.le_refl _) _) (hb'.mono (by simp))
            clear hb hb'
            (repeat' (first | (with_reducible exact Below.refl _ _) | (with_reducible refine Below.alloc ?_ ?_ _) | (with_reducible refine Below.setCell ?_ ?_ _) | (with_reducible refine Below.drew ?_) | (refine Below.trans ?_ (Below.mono (by with_reducible assumption) ?_)) | go_size))
        case rest =>
          obtain ⟨g14, rfl, HG14⟩ := hcut
          have hk := HG14.out.1
          have cB := hk.cell
          have hzk := hk.lt
          have hgw := HG14.out.2.1
          have HV2 := Lib.hid (HV.out.keep HG14.out.2.2)
          have HB2 : Hid (Below w.heap.size w wc) := HB.out.trans (HG14.out.2.2.mono (by omega))
          clear hk hd0 hd1 hc1
          generalize hL : leastDial p x.a x.b m lo hi = L at hdb cB HST
          clear hL
          rcases hdb with hneg | ⟨h1, h2, _⟩
          · subst hneg
            go_wp2
            refine bodyPost_ret (by simp [results, Tryd.results28, go_sem]; try rfl) rfl ?_
            have hst := HST.out
            rw [if_pos (by omega)] at hst
            rw [gch_none _ hst]
            refine ⟨_, rfl, Res.empty rfl rfl, ?_⟩
            have hb2 := HB2.out
            (repeat' (first | (with_reducible exact Below.refl _ _) | (with_reducible refine Below.alloc ?_ ?_ _) | (with_reducible refine Below.setCell ?_ ?_ _) | (with_reducible refine Below.drew ?_) | (refine Below.trans ?_ (Below.mono (by with_reducible assumption) ?_)) | go_size))
          · have hL0 : ¬ L < 0 := by omega
            have hst := HST.out
            rw [if_neg hL0] at hst
            have HST2 := Lib.hid hst; clear hst
            have HA := Lib.hid (Own.lit (k := 2) (c := r2C) (B := w.heap.size + 1) wc 24 #[.int .i64 p, .int .i64 L] 1 [(⟨p, L⟩ : R2)] (by have := HB2.out.size; omega) rfl (by omega) rfl)
            have HV3 := Lib.hid (HV2.out.alloc (.cells #[.int .i64 p, .int .i64 L] 24))
            have HR3 := Lib.hid (HV3.out.reads rfl).1
            go_wp2_with (first
              | (at_builtin
                 refine wpList_app (k := 2) (c := r2C) _ rfl _ _ _ rfl 24 (.agg (Array.replicate 2 (.int .i64 0))) 16 Tryd.underlying30 (by kernel_rfl) rfl (by decide) (by decide) r2C_one _ _ _ rfl HA.out _ _ _ _ rfl HR3.out ?hm ?hlen ?hB ?_
                 case hm => rw [List.length_cons, HLN.out]
                 case hlen => have := HLN.out; simp only [List.length_cons, List.length_nil]; omega
                 case hB => have := HB2.out.size; rw [World.size_alloc]; omega
                 intro v4 w4 hown4 hg4 hat4))
            refine ⟨⟨q, _, rfl, by omega, HST2.out, hown4, ?_⟩, by simp [intOf]⟩
            have hzz := HB2.out.size
            refine (HB2.out.alloc hzz _).grown hg4 (by rw [World.size_alloc]; omega) (fun k hk => ?_)
            injection hk with hk
            subst hk
            exact hzz
  · have hO : gchO ps fp fd m lo hi = none := by unfold gchO; rw [if_neg hv]
    rw [hO]
    clear hO
    generalize hn : ps.length = n at hl hv ⊢
    clear hR hn
    have hc : relV fp fd = false ∨ (relV fp fd = true ∧ 10 ≤ n) := by
      by_cases h : relV fp fd = true
      · rcases Nat.lt_or_ge n 10 with h10 | h10
        · exact absurd ⟨h, h10⟩ hv
        · exact .inr ⟨h, h10⟩
      · exact .inl (by simpa using h)
    clear hv
    rcases hc with hv | ⟨hv, hn⟩
    all_goals
      go_enter Tryd.func28, Tryd.ntmps28
      go_wp2_with fail; ((with_reducible refine (specRelayValid_any _ _ _).mono ?_); rintro e w1 ⟨rfl, hb_2⟩); have cB0_2 := keepB hb_2 (g := w.heap.size) (by go_size); have fB0_2 := keepF hb_2 (g := w.heap.size) (by go_size); have zB0_2 := keepZ hb_2 (g := w.heap.size) (by go_size); have hz_2 := hb_2.size; (try simp only [World.size_alloc, World.size_setCell, World.size_drew] at hz_2)
      go_wp2
      refine bodyPost_ret (by simp [results, Tryd.results28, go_sem]; try rfl) rfl ?_
      refine ⟨_, rfl, Res.empty rfl rfl, ?_⟩; (repeat' (first | (with_reducible exact Below.refl _ _) | (with_reducible refine Below.alloc ?_ ?_ _) | (with_reducible refine Below.setCell ?_ ?_ _) | (with_reducible refine Below.drew ?_) | (refine Below.trans ?_ (Below.mono (by with_reducible assumption) ?_)) | go_size))
end Go.Proofs.YtkndokcpnlbipaaDoor
