/- Drawing nets with leaks and lists of zones. -/
import Derived.Test.YtdfgdeccejcpfaaDoorDrZl
import Derived.Test.YtdfgdeccejcpfaaDoorDrLk
import Derived.Test.YtdfgdeccejcpfaaDoorOpen
namespace Go.Proofs.YtdfgdeccejcpfaaDoor
open Go.RowKit Go.Deep
set_option linter.unusedSimpArgs false
set_option linter.unusedVariables false
/-- A zone that lies in a block of its own, not in the block o. -/
def InOk (w : World) (B : Nat) (o : Option Nat) (s : SV) : Prop := s.xs = [] ∨ ∃ b off, s.A = some ⟨b, off, none⟩ ∧ B ≤ b ∧ b < w.heap.size ∧ o ≠ some b ∧ ∀ (i : Nat) (x : Int), s.xs[i]? = some x → ∀ j, j < 1 → w.cell? ⟨b, off + (i * 1 + j), none⟩ = some (intC x j)
section
variable {w w' : World} {B g : Nat} {o o' : Option Nat} {s : SV} {l : Obj}
theorem InOk.kept (h : InOk w B o s) (hz : w.heap.size ≤ w'.heap.size) (hb : ∀ b, B ≤ b → b < w.heap.size → o ≠ some b → w'.heap[b]? = w.heap[b]?) (ho : ∀ b, b < w.heap.size → o ≠ some b → o' ≠ some b) : InOk w' B o' s := by
  rcases h with h | ⟨b, off, h1, h2, h3, h4, h5⟩
  · exact .inl h
  · exact .inr ⟨b, off, h1, h2, by omega, ho b h3 h4, fun i x hx j hj => (World.cell?_of_block (a := ⟨b, _, none⟩) (hb b h2 h3 h4)).trans (h5 i x hx j hj)⟩
theorem InOk.chg (h : InOk w B o s) (hc : Chg g w w') (hg : g < B) : InOk w' B o s := h.kept hc.size (fun b h1 h2 _ => hc.block b h2 (fun e => by injection e with e; omega)) (fun _ _ h => h)
theorem InOk.below (h : InOk w B o s) (hb : Below w.heap.size w w') : InOk w' B o s := h.kept hb.size (fun b _ h2 _ => hb.block b h2) (fun _ _ h => h)
theorem InOk.grown (h : InOk w B o s) (hg : (w.alloc l).grownBy w' o) (hat : o' = o ∨ o' = some (w.alloc l).heap.size) : InOk w' B o' s := by
  refine h.kept (Nat.le_trans (by simp) hg.size) (fun b _ h2 h3 => (hg.block b (by simp; omega) (fun e => h3 e.symm)).trans (Below.heap_alloc w l b h2)) (fun b h2 h3 => ?_)
  rcases hat with e | e
  · rw [e]; exact h3
  · rw [e]; intro q; injection q with q; simp at q; omega
theorem InOk.of_drs {B0 n cp : Nat} {A : Option Addr} {xs : List Int} (h : DrS 1 intC w B0 (.slice A n cp) xs) (hB : B ≤ B0) (ho : ∀ q, o = some q → q < B0) : InOk w B o ⟨A, cp, xs⟩ := by
  obtain ⟨A', c', e, _, _, h⟩ := h
  injection e with e1 e2 e3
  subst e1
  rcases h with h | ⟨b, off, hA, hb, hz, hc⟩
  · exact .inl h
  · exact .inr ⟨b, off, hA, by omega, hz, fun e => by have := ho b e; omega, hc⟩
theorem InOk.mono {B' : Nat} (h : InOk w B o s) (hB : B' ≤ B) : InOk w B' o s := by
  rcases h with h | ⟨b, off, h1, h2, h3⟩
  · exact .inl h
  · exact .inr ⟨b, off, h1, by omega, h3⟩
theorem InOk.reads (h : InOk w B o s) : Reads 1 intC w w.heap.size s.A s.xs := by
  rcases h with h | ⟨b, off, h1, h2, h3, h4, h5⟩
  · exact .inl h
  · exact .inr ⟨b, off, h1, h3, h5⟩
theorem InOk.setLow (h : InOk w B o s) {p : Addr} (hp : p.block < B) (u : Value) : InOk (w.setCell p u) B o s := h.kept (by simp) (fun b hb _ _ => Below.heap_setCell w p u b (by omega)) (fun _ _ h => h)
end
def ZsOk (w : World) (B : Nat) (o : Option Nat) (zss : List SV) : Prop := ∀ s ∈ zss, InOk w B o s
theorem ZsOk.below {w w' : World} {B : Nat} {o : Option Nat} {zss : List SV} (h : ZsOk w B o zss) (hb : Below w.heap.size w w') : ZsOk w' B o zss := fun s hs => (h s hs).below hb
/-- A net, its lines' states, its buses, leaks, zones and a slack were drawn. -/
def DrawnZT (w : World) (e : Ending) (w' : World) : Prop :=
  ∃ (nb : Nat) (A1 A2 A3 A5 A4 : Option Addr) (c1 c2 c3 c5 c4 : Nat) (ls : List R3) (on : List Bool) (bs : List R2) (lk : List Int) (zss : List SV) (S : Int), e = .returned (.tuple #[.agg #[.int .i64 (nb : Int), .slice A1 ls.length c1], .slice A2 on.length c2, .slice A3 bs.length c3, .slice A5 lk.length c5, .slice A4 zss.length c4, .int .i64 S]) ∧ nb ≤ 7 ∧ ls.length ≤ 20 ∧ on.length ≤ 20 ∧ bs.length ≤ 20 ∧ lk.length ≤ 30 ∧ zss.length ≤ 4 ∧ -1 ≤ S ∧ S ≤ 11 ∧ (∀ s ∈ zss, s.xs.length ≤ 30) ∧
    DrS 3 r3C w' w.heap.size (.slice A1 ls.length c1) ls ∧ DrS 1 boolC w' w.heap.size (.slice A2 on.length c2) on ∧ DrS 2 r2C w' w.heap.size (.slice A3 bs.length c3) bs ∧ DrS 1 intC w' w.heap.size (.slice A5 lk.length c5) lk ∧ DrS 1 svC w' w.heap.size (.slice A4 zss.length c4) zss ∧ (∃ o, ∀ s ∈ zss, InOk w' w.heap.size o s) ∧ Below w.heap.size w w'
set_option maxRecDepth 100000 in
set_option maxHeartbeats 8000000 in
theorem drawZoneTrips_any (A : Option Addr) (c : Nat) (bs : List Int) (w : World) (hR : Reads 1 byteC w w.heap.size A bs) (hb : ∀ x ∈ bs, U8 x) (hl : bs.length ≤ 1048576) (hc : bs.length ≤ c) (hcm : c ≤ 9223372036854775807) :
    Calls Tryd.prog 8 #[.slice A bs.length c] w (DrawnZT w) := by
  have HRa := Lib.hid (reads_allocZ hR (.cells #[.int .i64 0, .slice none 0 0] 25)); clear hR
  have HB := Lib.hid hb; clear hb
  have HK0 : Hid (Bk (w.alloc (.cells #[.int .i64 0, .slice none 0 0] 25)) w.heap.size 25 #[.int .i64 0, .slice none 0 0]) := Bk.new _ _ _
  have HB0 : Hid (Below w.heap.size w (w.alloc (.cells #[.int .i64 0, .slice none 0 0] 25))) := Below.alloc (Below.refl _ _) (Nat.le_refl _) _
  go_enter Tryd.func8, Tryd.ntmps8
  go_wp2_with fail; ((with_reducible refine (l20Open_any A c bs _ HRa.out HB.out hl hc hcm).mono ?_); rintro e w1 ⟨g, rfl, hg, hr1, hb_1⟩); have hz_1 := hb_1.size; (try simp only [World.size_alloc, World.size_setCell, World.size_drew] at hz_1)
  have hgz := hr1.lt
  have HR1 := Lib.hid hr1
  have HK1 := Lib.hid (HK0.out.keep hb_1)
  have HB1 : Hid (Below w.heap.size w w1) := HB0.out.trans (hb_1.mono HB0.out.size)
  have hg4 : w.heap.size < g := by simp only [World.size_alloc] at hg; omega
  clear hr1 hb_1 hg HK0 HB0 HRa hz_1
  go_wp2_with fail
  with_reducible refine (l20Radial_any g 0 12 _ HR1.out (by omega) (by omega) (by omega)).mono ?_
  rintro e w2 ⟨nb, A1, A2, A3, c1, c2, c3, ls, on, bs2, rfl, hn2, hn7, hl1, hl2, hl3, hd1, hd2, hd3, hr2, hc2⟩
  have HK2 := Lib.hid (hc2.bk HK1.out (by omega))
  have HB2 : Hid (Below w.heap.size w w2) := HB1.out.trans ((hc2.below (Nat.le_of_lt hgz)).mono (by omega))
  have hz1 := HB1.out.size
  have hz2 := hc2.size
  have H1 := Lib.hid hd1; have H2 := Lib.hid hd2; have H3 := Lib.hid hd3
  have HR2 := Lib.hid hr2
  clear hd1 hd2 hd3 hr2 hc2 HR1 HK1
  have hgz2 : g < w2.heap.size := by omega
  have hww : w.heap.size < w2.heap.size := by omega
  -- the net's own block
  have HN3 : Hid (NetAt (w2.alloc (.cells #[.int .i64 (nb : Int), .slice A1 ls.length c1] 25)) w2.heap.size (nb : Int) (.slice A1 ls.length c1)) := Bk.new _ _ _
  have HK3 := Lib.hid (HK2.out.alloc (.cells #[.int .i64 (nb : Int), .slice A1 ls.length c1] 25))
  have HR3 := Lib.hid (HR2.out.alloc (.cells #[.int .i64 (nb : Int), .slice A1 ls.length c1] 25))
  have H13 := Lib.hid (H1.out.allocZ (.cells #[.int .i64 (nb : Int), .slice A1 ls.length c1] 25))
  have H23 := Lib.hid (H2.out.allocZ (.cells #[.int .i64 (nb : Int), .slice A1 ls.length c1] 25))
  have H33 := Lib.hid (H3.out.allocZ (.cells #[.int .i64 (nb : Int), .slice A1 ls.length c1] 25))
  have HB3 : Hid (Below w.heap.size w (w2.alloc (.cells #[.int .i64 (nb : Int), .slice A1 ls.length c1] 25))) := HB2.out.alloc HB2.out.size _
  go_upto_region 3 with fail
  generalize w2.alloc (.cells #[.int .i64 (nb : Int), .slice A1 ls.length c1] 25) = w3 at HN3 HK3 HR3 H13 H23 H33 HB3 ⊢
  clear HK2 HR2 H1 H2 H3 HB2
  obtain ⟨g7, hg7⟩ : ∃ g7, w2.heap.size = g7 := ⟨_, rfl⟩
  rw [hg7] at hgz2 hww HN3 ⊢
  have h17 : w1.heap.size ≤ g7 := by omega
  have hw1 : w.heap.size < w1.heap.size := by omega
  clear hg7 hz1 hz2
  have hg3 := HR3.out.lt
  have h73 := HN3.out.lt
  have s0 := HN3.out.c0
  have s1 := HN3.out.c1
  have hne : ¬ g7 = w.heap.size := by omega
  have hne2 : ¬ w.heap.size = g7 := by omega
  clear s0 s1
  go_wp2_with fail
  with_reducible refine (l20Leaks_any g (0 + 100) 12 A3 bs2.length c3 w3 HR3.out (by omega) (by omega) (by omega) (by omega)).mono ?_
  rintro e w4 ⟨v4, lk, rfl, hlk5, hdk, hrk, hck⟩
  have HL4 := Lib.hid hdk
  obtain ⟨A5, c5, rfl, -⟩ := hdk
  have HR4 := Lib.hid hrk
  have HN4 : Hid (NetAt w4 g7 (nb : Int) (.slice A1 ls.length c1)) := hck.bk HN3.out (by omega)
  have HK4 := Lib.hid (hck.bk HK3.out (by omega))
  have H14 := Lib.hid (H13.out.chg hck hgz); have H24 := Lib.hid (H23.out.chg hck hgz); have H34 := Lib.hid (H33.out.chg hck hgz)
  have HB4 : Hid (Below w.heap.size w w4) := HB3.out.trans ((hck.below (Nat.le_of_lt hg3)).mono (Nat.le_of_lt hg4))
  have hz34 := hck.size
  clear hrk hck HN3 HK3 HR3 H13 H23 H33 HB3
  have HNX := Lib.hid (HN4.out.below (Below.alloc (Below.refl w4.heap.size w4) (Nat.le_refl _) (.cells #[] 28)))
  have HRx := Lib.hid (HR4.out.alloc (.cells #[] 28))
  go_wp2_with fail; ((with_reducible refine (pick_any g (0 + 100 + 60) 5 _ (HRx.out) (by omega) (by omega)).mono ?_); rintro e w5 ⟨k0, rfl, h0k0, h1k0, hr_w5, hc_w5⟩); have hz_w5 := hc_w5.size; (try simp only [World.size_alloc, World.size_setCell, World.size_drew] at hz_w5); have HR_w5 := Lib.hid hr_w5; have HC_w5 := Lib.hid hc_w5; clear hr_w5 hc_w5
  have HCX : Hid (Chg g w4 w5) := ((Chg.refl g w4).alloc _).trans HC_w5.out
  have HO5 : Hid (Own 1 svC 28 w5 w4.heap.size (.slice (some ⟨w4.heap.size, 0, none⟩) 0 0) []) := (Own.lit (k := 1) (c := svC) (B := w4.heap.size) w4 28 #[] 0 [] (Nat.le_refl _) rfl (by omega) rfl).chg HC_w5.out (by omega)
  clear HNX HRx HC_w5 hz_w5
  have hg4z : g < w4.heap.size := HR4.out.lt
  go_wp2_with fail
  go_loopw [13, 14] (fun t13 t14 wr => ∃ (k : Int) (zss : List SV), t14 = .int .i64 k ∧ 0 ≤ k ∧ k ≤ 4 ∧ Hid ((zss.length : Int) ≤ 4 - k ∧ ∀ s ∈ zss, s.xs.length ≤ 30) ∧ Hid (Own 1 svC 28 wr w4.heap.size t13 zss) ∧ Hid (∀ s ∈ zss, InOk wr w4.heap.size t13.ownBlock s) ∧ Hid (RdOk 83 wr g (300 - 31 * k)) ∧ Hid (Chg g w4 wr)) (fun _ t14 _ => (intOf t14).toNat)
  case atStart => exact ⟨k0, [], rfl, h0k0, by omega, ⟨by simp; omega, by simp⟩, HO5, by unfold Hid; simp, HR_w5.out.more (by omega), HCX⟩
  case round =>
    obtain ⟨k, zss, rfl, hk0, hk4, HZL, HV, HIN, HR2, HC⟩ := hrel
    clear HO5 HCX HR_w5
    have hzw := HC.out.size
    have hgr : g < wr.heap.size := by omega
    obtain ⟨vA, vc, hvv⟩ := HV.out.slice
    subst hvv
    have hzl : zss.length ≤ 4 := by have := HZL.out.1; omega
    have HNr : Hid (NetAt wr g7 (nb : Int) (.slice A1 ls.length c1)) := HC.out.bk HN4.out (by omega)
    have s0 := HNr.out.c0
    have s1 := HNr.out.c1
    have hzn := HNr.out.lt
    by_cases hk : 0 < k
    · go_wp2_with fail
      with_reducible refine (l20Zone_any g (300 - 31 * k) 20 (nb : Int) A1 ls.length c1 wr HR2.out (by omega) (by omega) (by omega) (by omega) (by omega)).mono ?_
      rintro e wa ⟨va, zs, rfl, hz30, hdz, hrz, hcz⟩
      have HZa := Lib.hid hdz
      obtain ⟨Az, cz, rfl, -⟩ := hdz
      have hbl := HV.out.blk
      have HNEW : Hid (InOk wa w4.heap.size (Value.slice vA zss.length vc).ownBlock ⟨Az, cz, zs⟩) := InOk.of_drs HZa.out hzw (fun q hq => (hbl q hq).2)
      have HVa := Lib.hid (HV.out.chg hcz (by omega))
      have HINa : Hid (∀ s ∈ zss, InOk wa w4.heap.size (Value.slice vA zss.length vc).ownBlock s) := fun s hs => (HIN.out s hs).chg hcz (by omega)
      have HCa := Lib.hid (HC.out.trans hcz)
      have HRa := Lib.hid hrz
      have hza := HCa.out.size
      clear hrz hcz hbl s0 s1
      have HL_7 := Lib.hid (Own.lit (k := 1) (c := svC) (B := w4.heap.size) wa 28 #[.slice Az zs.length cz] 1 [(⟨Az, cz, zs⟩ : SV)] (by first | exact Nat.le_refl _ | omega) rfl (by omega) rfl); have HQ_7 := Lib.hid (HL_7.out.reads rfl).1; have HV_7 := Lib.hid (Own.alloc (HVa.out) (.cells #[.slice Az zs.length cz] 28)); have HK_7 := Lib.hid (Own.blk (HVa.out)); go_wp2_with (first | (at_builtin; refine wpList_app_g (k := 1) (c := svC) _ (by rfl) _ _ _ rfl 28 (.slice none 0 0) 24 Tryd.underlying29 (by kernel_rfl) rfl (by decide) (by decide) svC_one _ _ _ rfl HV_7.out _ _ _ _ rfl HQ_7.out ?hm ?hlen ?hB ?_; (case hm => (first | rfl | (simp; done) | omega)); (case hlen => (simp only [List.length_cons, List.length_nil]; omega)); (case hB => ((try simp only [World.size_alloc, World.size_drew]); omega)); intro v_7 w_7 hown_7 hg_7 hat_7; have HW_7 : Hid (Below (w4.heap.size) (wa) w_7) := (Below.alloc (Below.refl _ _) (by first | exact Nat.le_refl _ | omega) _).grown hg_7 (by (try simp only [World.size_alloc]); omega) (fun q hq => (HK_7.out q hq).1); have HG_7 := Lib.hid hg_7; have HAT_7 := Lib.hid hat_7; have HO_7 := Lib.hid hown_7; obtain ⟨A_7, c_7, hv_7⟩ := hown_7.slice; simp only [List.length_append, List.length_cons, List.length_nil, Nat.zero_add] at hv_7; subst hv_7; have hz_7 := HG_7.out.size; (try simp only [World.size_alloc] at hz_7); clear hown_7 hg_7 hat_7 HL_7 HQ_7 HV_7))
      have HC7 := Lib.hid ((HCa.out.alloc _).grown HG_7.out (fun q hq => (HK_7.out q hq).1))
      have HR7 := Lib.hid ((HRa.out.alloc (.cells #[.slice Az zs.length cz] 28)).grown HG_7.out (fun q hq => by have := (HK_7.out q hq).1; omega))
      refine ⟨⟨k - 1, _, by go_num, by omega, by omega, ⟨by have := HZL.out.1; simp; omega, fun s hs => ?_⟩, HO_7, fun s hs => ?_, HR7.out.more (by omega), HC7⟩, by simp [intOf]; omega⟩
      · rcases List.mem_append.1 hs with hs | hs
        · exact HZL.out.2 s hs
        · simp at hs; subst hs; exact hz30
      · rcases List.mem_append.1 hs with hs | hs
        · exact (HINa.out s hs).grown HG_7.out HAT_7.out
        · simp at hs; subst hs; exact HNEW.out.grown HG_7.out HAT_7.out
    · have HRd : Hid (RdOk 83 wr.drew g 300) := HR2.out.more (by omega)
      have HNd : Hid (NetAt wr.drew g7 (nb : Int) (.slice A1 ls.length c1)) := HNr.out
      have HCd : Hid (Chg g w4 wr.drew) := HC.out.drewL
      go_wp2_with fail
      go_region_held3 (fun w' => w'.cell? ⟨g7, 0, none⟩ = some (.int .i64 (nb : Int)) ∧ w'.cell? ⟨g7, 1, none⟩ = some (.slice A1 ls.length c1)) (simp [go_sem, World.cell?_alloc_past, *])
        (first | (go_at_call 33; (with_reducible refine (pick_any g 300 12 _ (by with_reducible exact HRd.out) (by omega) (by omega)).mono ?_); rintro e wa ⟨va, rfl, h0a, h1a, hra, hca⟩; have HRa := Lib.hid hra; have HNa : Hid (NetAt wa g7 (nb : Int) (.slice A1 ls.length c1)) := Lib.hid (hca.bk HNd.out (by omega)); have HCa := Lib.hid (HCd.out.trans hca); have HCz := Lib.hid hca; clear hra hca; have p0 := HNa.out.c0; have p1 := HNa.out.c1) | (go_at_call 33; (with_reducible refine (pick_any g (300 + 1) 12 _ (by with_reducible exact HRa.out) (by omega) (by omega)).mono ?_); rintro e wb ⟨vb, rfl, h0b, h1b, hrb, hcb⟩; have HRb := Lib.hid hrb; have HNb : Hid (NetAt wb g7 (nb : Int) (.slice A1 ls.length c1)) := Lib.hid (hcb.bk HNa.out (by omega)); have HCb := Lib.hid (HCa.out.trans hcb); have HCy := Lib.hid (HCz.out.trans hcb); clear hrb hcb; have q0 := HNb.out.c0; have q1 := HNb.out.c1; have HKb := Lib.hid (HCb.out.bk HK4.out (by omega)); have k0 : wb.cell? ⟨w.heap.size, 0, none⟩ = some (.int .i64 0) := HKb.out.cell 0; have k1 : wb.cell? ⟨w.heap.size, 1, none⟩ = some (.slice none 0 0) := HKb.out.cell 1; have kf := HKb.out.frozen; have kz := HKb.out.lt; have htd : vb.tdiv 11 = vb / 11 := Int.tdiv_eq_ediv_of_nonneg h0b; have hwq : IntKind.i64.wrap (vb.tdiv 11) = vb / 11 := (by rw [htd]; exact IntWalk.i64_in _ (by omega)); have hwq2 : IntKind.i64.wrap (vb / 11) = vb / 11 := IntWalk.i64_in _ (by omega); have hqd : IntKind.i64.wrap (va - vb / 11) = va - vb / 11 := IntWalk.i64_in _ (by omega)))
      have HVb := Lib.hid (HV.out.drew.chg HCy.out (by omega))
      have HINb : Hid (∀ s ∈ zss, InOk wb w4.heap.size (Value.slice vA zss.length vc).ownBlock s) := fun s hs => InOk.chg (w := wr.drew) (HIN.out s hs) HCy.out (by omega)
      have HBb : Hid (Below w.heap.size w wb) := HB4.out.trans ((HCb.out.below (by omega)).mono (by omega))
      have H1b := Lib.hid (H14.out.chg HCb.out hgz); have H2b := Lib.hid (H24.out.chg HCb.out hgz); have H3b := Lib.hid (H34.out.chg HCb.out hgz)
      have HLb := Lib.hid (HL4.out.chg HCb.out hg3)
      clear p0 p1 q0 q1
      go_wp2_with fail
      refine bodyPost_ret (v := .tuple #[.agg #[.int .i64 (nb : Int), .slice A1 ls.length c1], .slice A2 on.length c2, .slice A3 bs2.length c3, .slice A5 lk.length c5, .slice vA zss.length vc, .int .i64 (va - vb / 11)]) (by simp [results, Tryd.results8, go_sem, k0, k1, kf, kz, hwq, hwq2, hqd]; try rfl) rfl ?_
      have hset : ∀ {α : Type} {k : Nat} {c : α → Nat → Value} {v : Value} {xs : List α} {B : Nat} {a b : Value}, w.heap.size < B → DrS k c wb B v xs → DrS k c ((wb.setCell ⟨w.heap.size, 0, none⟩ a).setCell ⟨w.heap.size, 1, none⟩ b) w.heap.size v xs := fun hB h => ((h.setLow (p := ⟨w.heap.size, 0, none⟩) (by simpa using hB) _).setLow (p := ⟨w.heap.size, 1, none⟩) (by simpa using hB) _).mono (Nat.le_of_lt hB)
      have hw3 : w.heap.size < w3.heap.size := by omega
      have hw4 : w.heap.size < w4.heap.size := by omega
      refine ⟨nb, A1, A2, A3, A5, vA, c1, c2, c3, c5, vc, ls, on, bs2, lk, zss, va - vb / 11, rfl, hn7, hl1, hl2, hl3, hlk5, hzl, by omega, by omega, HZL.out.2, hset hw1 H1b.out, hset hw1 H2b.out, hset hw1 H3b.out, hset hw3 HLb.out, hset hw4 HVb.out.drs, ⟨(Value.slice vA zss.length vc).ownBlock, fun s hs => ?_⟩, (HBb.out.setCell (by simp) _).setCell (by simp) _⟩
      exact ((((HINb.out s hs).setLow (p := ⟨w.heap.size, 0, none⟩) (by simpa using hw4) _).setLow (p := ⟨w.heap.size, 1, none⟩) (by simpa using hw4) _)).mono (Nat.le_of_lt hw4)
end Go.Proofs.YtdfgdeccejcpfaaDoor
