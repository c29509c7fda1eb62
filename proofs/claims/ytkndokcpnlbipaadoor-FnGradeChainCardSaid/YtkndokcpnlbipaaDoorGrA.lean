/- Relays: a chain of them, the program's. -/
import Derived.Test.YtkndokcpnlbipaaDoorRelC
import Derived.Test.YtkndokcpnlbipaaDoorApp
namespace Go.Proofs.YtkndokcpnlbipaaDoor
open Go.RowKit
set_option linter.unusedSimpArgs false
set_option linter.unusedVariables false

/-- The chain behind picks, from the last one on. -/
noncomputable def gch (fp fd m lo hi : Int) : List Int → Option (List R2)
  | [] => some [⟨fp, fd⟩]
  | p :: ps => match gch fp fd m lo hi ps with
    | some (x :: acc) => if leastDial p x.a x.b m lo hi < 0 then none else some (⟨p, leastDial p x.a x.b m lo hi⟩ :: x :: acc)
    | _ => none
theorem gch_none {fp fd m lo hi : Int} {ps : List Int} (k : Nat) (h : gch fp fd m lo hi (ps.drop k) = none) : gch fp fd m lo hi ps = none := by
  induction k generalizing ps with
  | zero => simpa using h
  | succ k ih =>
    cases ps with
    | nil => simpa using h
    | cons p ps =>
      have := ih (ps := ps) (by simpa using h)
      simp [gch, this]
theorem gch_len {fp fd m lo hi : Int} {ps : List Int} {acc : List R2} (h : gch fp fd m lo hi ps = some acc) : acc.length = ps.length + 1 := by
  induction ps generalizing acc with
  | nil => simp [gch] at h; subst h; rfl
  | cons p ps ih =>
    simp only [gch] at h
    split at h
    · rename_i x acc' hg
      split at h
      · cases h
      · injection h with h; subst h; have := ih hg; simp at this ⊢; omega
    · cases h
theorem gch_step {fp fd m lo hi : Int} {ps : List Int} {k : Nat} {p : Int} {x : R2} {acc : List R2} (hk : k < ps.length) (hp : ps[k] = p) (h : gch fp fd m lo hi (ps.drop (k + 1)) = some (x :: acc)) :
    gch fp fd m lo hi (ps.drop k) = if leastDial p x.a x.b m lo hi < 0 then none else some (⟨p, leastDial p x.a x.b m lo hi⟩ :: x :: acc) := by
  rw [List.drop_eq_getElem_cons hk, hp]
  simp [gch, h]
noncomputable def gchO (ps : List Int) (fp fd m lo hi : Int) : Option (List R2) := if relV fp fd = true ∧ ps.length < 10 then gch fp fd m lo hi ps else none
/-- What a chain's function returns. -/
def RetC (T : TypeId) (w : World) (o : Option (List R2)) (e : Ending) (w' : World) : Prop := RetP 2 r2C T w (o.getD []) o.isSome e w'

set_option maxHeartbeats 2000000 in
theorem implGradeChain_any (A : Option Addr) (c : Nat) (ps : List Int) (fp fd m lo hi : Int) (w : World) (hR : Reads 1 intC w w.heap.size A ps) (hl : ps.length ≤ 1048576) :
    Calls Tryd.prog 27 #[.slice A ps.length c, .agg #[.int .i64 fp, .int .i64 fd], .int .i64 m, .int .i64 lo, .int .i64 hi] w (RetC 24 w (gchO ps fp fd m lo hi)) := by
  by_cases hv : relV fp fd = true ∧ ps.length < 10
  · obtain ⟨hv1, hv2⟩ := hv
    have hO : gchO ps fp fd m lo hi = gch fp fd m lo hi ps := by unfold gchO; rw [if_pos ⟨hv1, hv2⟩]
    rw [hO]; clear hO
    have hmk0 := fun W => run_mk (P := Tryd.prog) 30 24 (.agg (Array.replicate 2 (.int .i64 0))) 2 16 (ps.length + 1) Tryd.underlying30 (by kernel_rfl) (by omega) (by omega) W
    have HR := Lib.hid hR; clear hR
    generalize hn : ps.length = n at hmk0 hl hv2 ⊢
    have HN := Lib.hid hn; clear hn
    have K0 := Lib.hid (fun W : World => row_made W 2 (by omega) ((n + 1) * 2) 24)
    generalize hmc : madeCells (Array.replicate 2 (Value.int .i64 0)) ((n + 1) * 2) = mc at K0
    have hmk : ∀ W : World, (Instr.makeSlice 30 (.int .i64 ((n : Int) + 1)) (.int .i64 ((n : Int) + 1))).run Tryd.prog W = .ok (.slice (some ⟨W.heap.size, 0, none⟩) (n + 1) (n + 1)) (W.alloc (.cells mc 24)) := fun W => by
      rw [← hmc]; exact hmk0 W
    clear hmk0 hmc
    go_enter Tryd.func27, Tryd.ntmps27
    go_wp2_with fail; ((with_reducible refine (implRelayValid_any _ _ _).mono ?_); rintro e w1 ⟨rfl, hb_1⟩); have cB0_1 := keepB hb_1 (g := w.heap.size) (by go_size); have fB0_1 := keepF hb_1 (g := w.heap.size) (by go_size); have zB0_1 := keepZ hb_1 (g := w.heap.size) (by go_size); have hz_1 := hb_1.size; (try simp only [World.size_alloc, World.size_setCell, World.size_drew] at hz_1)
    have HB1 : Hid (Below w.heap.size w w1) := by unfold Hid; (repeat' (first | (with_reducible exact Below.refl _ _) | (with_reducible refine Below.alloc ?_ ?_ _) | (with_reducible refine Below.setCell ?_ ?_ _) | (with_reducible refine Below.drew ?_) | (refine Below.trans ?_ (Below.mono (by with_reducible assumption) ?_)) | go_size))
    have hn1 : ¬ ((10 : Int) < (n : Int) + 1) := by omega
    go_upto_region 4 with fail
    have R0 := Lib.hid (K0.out w1)
    have B0 : Hid (Below w.heap.size w (w1.alloc (.cells mc 24))) := by unfold Hid; have hb1 := HB1.out; (repeat' (first | (with_reducible exact Below.refl _ _) | (with_reducible refine Below.alloc ?_ ?_ _) | (with_reducible refine Below.setCell ?_ ?_ _) | (with_reducible refine Below.drew ?_) | (refine Below.trans ?_ (Below.mono (by with_reducible assumption) ?_)) | go_size))
    have hg0 : w.heap.size < w1.heap.size := by omega
    generalize hg : w1.heap.size = g at R0 hg0 ⊢
    have cB0_x : ∀ i, (w1.alloc (.cells mc 24)).cell? ⟨w.heap.size, i, none⟩ = #[Value.int .i64 fp, .int .i64 fd][i]? := fun i => by rw [World.cell?_alloc_past _ _ _ zB0_1, cB0_1]; simp [go_sem]
    generalize hW : w1.alloc (.cells mc 24) = W at R0 B0 cB0_x ⊢
    clear hW hg hmk cB0_1 fB0_1 zB0_1 hb_1 hz_1 K0 HB1 mc w1
    have g1 := R0.out.cell (i := n * 2) (by omega)
    have g2 := R0.out.cell (i := n * 2 + 1) (by omega)
    have gf := R0.out.frozen
    have hzW := R0.out.lt
    go_wp2_with fail
    go_loopw [13] (fun t wr => ∃ (j : Nat) (acc : List R2), t = .int .i64 ((j : Int) - 1) ∧ j ≤ n ∧ Hid (gch fp fd m lo hi (ps.drop j) = some acc) ∧
        Hid (∃ f, wr.rowIs g 24 ((n + 1) * 2) f ∧ ∀ (i : Nat) (x : R2), acc[i]? = some x → ∀ q, q < 2 → f ((j + i) * 2 + q) = r2C x q) ∧ Hid (Below w.heap.size w wr)) (fun t _ => (intOf t + 1).toNat)
    case atStart =>
      refine ⟨n, [⟨fp, fd⟩], rfl, Nat.le_refl _, ?_, ?_, ?_⟩
      · unfold Hid; rw [List.drop_of_length_le (by rw [HN.out]; exact Nat.le_refl _)]; rfl
      · refine ⟨_, ((R0.out.set (n * 2) _).set (n * 2 + 1) _), fun i x hx q hq => ?_⟩
        have hi0 : i = 0 := by
          rcases i with _ | i
          · rfl
          · simp at hx
        subst hi0
        simp at hx; subst hx
        have hq2 : q = 0 ∨ q = 1 := by omega
        rcases hq2 with rfl | rfl
        · rw [if_neg (by omega), if_pos (by omega)]; rfl
        · rw [if_pos (by omega)]; rfl
      · unfold Hid; have hb0 := B0.out; (repeat' (first | (with_reducible exact Below.refl _ _) | (with_reducible refine Below.alloc ?_ ?_ _) | (with_reducible refine Below.setCell ?_ ?_ _) | (with_reducible refine Below.drew ?_) | (refine Below.trans ?_ (Below.mono (by with_reducible assumption) ?_)) | go_size))
    case round =>
      obtain ⟨j, acc, ht, hj, HG, HF, HB⟩ := hrel
      clear g1 g2 gf cB0_x R0 B0
      rcases j with _ | q
      · have ht2 := ht.trans (show Value.int .i64 (((0 : Nat) : Int) - 1) = .int .i64 (-1) from rfl)
        clear ht
        subst ht2
        obtain ⟨f, hrow, hf⟩ := HF.out
        have HRow := Lib.hid hrow; clear hrow
        go_wp2
        refine bodyPost_ret (by simp [results, Tryd.results27, go_sem]; try rfl) rfl ?_
        have hG := HG.out
        rw [List.drop_zero] at hG
        rw [hG]
        have hlen := gch_len hG
        refine ⟨_, rfl, Res.of_row (Nat.le_of_lt hg0) HRow.out (by rw [HN.out] at hlen; exact hlen.symm) (by show acc.length * 2 ≤ _; rw [HN.out] at hlen; omega) (fun i x hx p hp => ?_), HB.out⟩
        have := hf i x hx p hp
        rw [Nat.zero_add] at this
        exact this
      · have e : ((q + 1 : Nat) : Int) - 1 = (q : Int) := by omega
        rw [e] at ht
        subst ht
        clear e
        obtain ⟨x, acc, rfl⟩ : ∃ x acc', acc = x :: acc' := by
          have := gch_len HG.out
          rcases acc with _ | ⟨x, acc⟩
          · simp at this
          · exact ⟨x, acc, rfl⟩
        have hq : q < ps.length := by rw [HN.out]; omega
        obtain ⟨b, off, rfl, hb, hc⟩ := HR.out.at1 hq
        have hc1 : wr.cell? ⟨b, off + q, none⟩ = some (.int .i64 ps[q]) := (HB.out.cell (p := ⟨b, off + q, none⟩) hb).trans hc
        have hst := gch_step hq rfl HG.out
        obtain ⟨p, hp⟩ : ∃ p, ps[q] = p := ⟨_, rfl⟩
        rw [hp] at hst hc1
        clear hc
        have hdb := leastDial_bd p x.a x.b m lo hi
        obtain ⟨f, hrow, hf⟩ := HF.out
        have hd0 : wr.cell? ⟨g, (q + 1) * 2, none⟩ = some (.int .i64 x.a) := by
          have := hrow.cell (i := (q + 1) * 2) (by omega)
          rw [this]; have := hf 0 x rfl 0 (by omega); simp only [Nat.add_zero] at this; rw [this]; rfl
        have hd1 : wr.cell? ⟨g, (q + 1) * 2 + 1, none⟩ = some (.int .i64 x.b) := by
          have := hrow.cell (i := (q + 1) * 2 + 1) (by omega)
          rw [this]; have := hf 0 x rfl 1 (by omega); simp only [Nat.add_zero] at this; rw [this]; rfl
        have he0 := hrow.cell (i := q * 2) (by omega)
        have he1 := hrow.cell (i := q * 2 + 1) (by omega)
        have hef := hrow.frozen
        have hzg := hrow.lt
        have HRow := Lib.hid (And.intro hrow hf); clear hrow hf
        generalize hL : leastDial p x.a x.b m lo hi = L at hst hdb
        have HL := Lib.hid hL; have HP := Lib.hid hp; have HST := Lib.hid hst
        clear hL hp hst
        have hbw : b < wr.heap.size := Nat.lt_of_lt_of_le hb HB.out.size
        have hi1 : (q : Int) < (n : Int) := by omega
        have hi0 : (0 : Int) ≤ (q : Int) := by omega
        have hi2 : (q : Int) + 1 < (n : Int) + 1 := by omega
        have hi3 : (0 : Int) ≤ (q : Int) + 1 := by omega
        have hq1 : ((q : Int) + 1).toNat = q + 1 := by omega
        have hw : IntKind.i64.wrap ((q : Int) + 1) = (q : Int) + 1 := IntWalk.i64_in _ (by omega)
        go_wp2_with fail
        go_region_held3 (fun w' => w'.cell? ⟨b, off + q, none⟩ = some (.int .i64 p) ∧ w'.cell? ⟨g, (q + 1) * 2, none⟩ = some (.int .i64 x.a) ∧ w'.cell? ⟨g, (q + 1) * 2 + 1, none⟩ = some (.int .i64 x.b)) (simp [go_sem, World.cell?_alloc_past, *])
          (first | (go_at_call 21; refine (implLeastDial_any _ _ _ _ _ _ _).mono ?_; rintro e w1 ⟨rfl, hb⟩; have cB0 := keepB hb (g := b) (by go_size); have fB0 := keepF hb (g := b) (by go_size); have zB0 := keepZ hb (g := b) (by go_size); have cB1 := keepB hb (g := g) (by go_size); have fB1 := keepF hb (g := g) (by go_size); have zB1 := keepZ hb (g := g) (by go_size); have hz := hb.size; (try simp only [World.size_alloc, World.size_setCell, World.size_drew] at hz)))
        clear hw hq1
        have HX : Hid (Below wr.heap.size wr w1) := by unfold Hid; (repeat' (first | (with_reducible exact Below.refl _ _) | (with_reducible refine Below.alloc ?_ ?_ _) | (with_reducible refine Below.setCell ?_ ?_ _) | (with_reducible refine Below.drew ?_) | (refine Below.trans ?_ (Below.mono (by with_reducible assumption) ?_)) | go_size))
        have HRow1 := Lib.hid (HRow.out.1.of_block (HX.out.block g hzg))
        have hlm : leastDial p x.a x.b m lo hi = L := HL.out
        rw [hlm]
        have HLM := Lib.hid hlm; clear hlm
        rcases hdb with hneg | ⟨h1, h2, _⟩
        · subst hneg
          clear cB0 cB1 fB0 fB1 zB0 zB1 he0 he1 hef
          go_wp2
          refine bodyPost_ret (by simp [results, Tryd.results27, go_sem]; try rfl) rfl ?_
          have hst := HST.out
          rw [if_pos (by omega)] at hst
          rw [gch_none _ hst]
          exact ⟨_, rfl, Res.empty rfl rfl, HB.out.trans (HX.out.mono (by omega))⟩
        · have hL0 : ¬ L < 0 := by omega
          have hst := HST.out
          rw [if_neg hL0] at hst
          have HST2 := Lib.hid hst; clear hst
          have he0 := (keepB HX.out hzg (q * 2)).trans he0
          have he1 := (keepB HX.out hzg (q * 2 + 1)).trans he1
          have hef : ∀ i, w1.frozen? ⟨g, i, none⟩ = false := fun i => (keepF HX.out hzg i).trans (hef i)
          have hc1 := (keepB HX.out hbw (off + q)).trans hc1
          have hzg1 := keepZ HX.out hzg
          clear cB0 cB1 fB0 fB1 zB0 zB1 hd0 hd1
          go_wp2
          refine ⟨⟨q, _, rfl, by omega, HST2.out, ⟨_, ((HRow1.out.set (q * 2) _).set (q * 2 + 1) _), fun i y hy r hr => ?_⟩, ?_⟩, by simp [intOf]⟩
          · rcases i with _ | i
            · simp at hy; subst hy
              have hr2 : r = 0 ∨ r = 1 := by omega
              rcases hr2 with rfl | rfl
              · rw [if_neg (by omega), if_pos (by omega)]; rfl
              · rw [if_pos (by omega)]; rfl
            · have := HRow.out.2 i y (by simpa using hy) r hr
              rw [if_neg (by omega), if_neg (by omega), ← this]
              congr 1; omega
          · have hbx := HB.out.trans (HX.out.mono (by omega))
            have hgg : w.heap.size ≤ g := Nat.le_of_lt hg0
            unfold Hid; exact (hbx.setCell (p := ⟨g, q * 2, none⟩) hgg _).setCell (p := ⟨g, q * 2 + 1, none⟩) hgg _
  · have hO : gchO ps fp fd m lo hi = none := by unfold gchO; rw [if_neg hv]
    rw [hO]
    clear hO
    generalize hn : ps.length = n at hl hv ⊢
    clear hR hn
    have hc : relV fp fd = false ∨ (relV fp fd = true ∧ 10 ≤ n) := by
      by_cases h : relV fp fd = true
      · rcases Nat.lt_or_ge n 10 with h10 | h10
        · exact absurd ⟨h, h10⟩ hv
        · exact .inr ⟨h, h10⟩
      · exact .inl (by simpa using h)
    clear hv
    rcases hc with hv | ⟨hv, hn⟩
    · go_enter Tryd.func27, Tryd.ntmps27
      go_wp2_with fail; ((with_reducible refine (implRelayValid_any _ _ _).mono ?_); rintro e w1 ⟨rfl, hb_2⟩); have cB0_2 := keepB hb_2 (g := w.heap.size) (by go_size); have fB0_2 := keepF hb_2 (g := w.heap.size) (by go_size); have zB0_2 := keepZ hb_2 (g := w.heap.size) (by go_size); have hz_2 := hb_2.size; (try simp only [World.size_alloc, World.size_setCell, World.size_drew] at hz_2)
      go_wp2
      refine bodyPost_ret (by simp [results, Tryd.results27, go_sem]; try rfl) rfl ?_
      refine ⟨_, rfl, Res.empty rfl rfl, ?_⟩; (repeat' (first | (with_reducible exact Below.refl _ _) | (with_reducible refine Below.alloc ?_ ?_ _) | (with_reducible refine Below.setCell ?_ ?_ _) | (with_reducible refine Below.drew ?_) | (refine Below.trans ?_ (Below.mono (by with_reducible assumption) ?_)) | go_size))
    · go_enter Tryd.func27, Tryd.ntmps27
      go_wp2_with fail; ((with_reducible refine (implRelayValid_any _ _ _).mono ?_); rintro e w1 ⟨rfl, hb_3⟩); have cB0_3 := keepB hb_3 (g := w.heap.size) (by go_size); have fB0_3 := keepF hb_3 (g := w.heap.size) (by go_size); have zB0_3 := keepZ hb_3 (g := w.heap.size) (by go_size); have hz_3 := hb_3.size; (try simp only [World.size_alloc, World.size_setCell, World.size_drew] at hz_3)
      go_wp2
      refine bodyPost_ret (by simp [results, Tryd.results27, go_sem]; try rfl) rfl ?_
      refine ⟨_, rfl, Res.empty rfl rfl, ?_⟩; (repeat' (first | (with_reducible exact Below.refl _ _) | (with_reducible refine Below.alloc ?_ ?_ _) | (with_reducible refine Below.setCell ?_ ?_ _) | (with_reducible refine Below.drew ?_) | (refine Below.trans ?_ (Below.mono (by with_reducible assumption) ?_)) | go_size))
end Go.Proofs.YtkndokcpnlbipaaDoor
