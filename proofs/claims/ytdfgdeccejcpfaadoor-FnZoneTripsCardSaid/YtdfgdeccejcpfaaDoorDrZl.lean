/- Drawing nets with zones. -/
import Derived.Test.YtdfgdeccejcpfaaDoorDrRad
import Derived.Test.YtdfgdeccejcpfaaDoorDrZone
import Derived.Test.YtdfgdeccejcpfaaDoorDrB
import Derived.Deep.RegionHeld3
namespace Go.Proofs.YtdfgdeccejcpfaaDoor
open Go.RowKit Go.Deep
set_option linter.unusedSimpArgs false
set_option linter.unusedVariables false

theorem reads_allocZ {α : Type} {k : Nat} {c : α → Nat → Value} {w : World} {A : Option Addr} {xs : List α} (h : Reads k c w w.heap.size A xs) (o : Obj) : Reads k c (w.alloc o) (w.alloc o).heap.size A xs :=
  (h.below (Below.alloc (Below.refl w.heap.size w) (Nat.le_refl _) o) (Nat.le_refl _)).more (by simp)
/-- A net at the block g. -/
def NetAt (w : World) (g : Nat) (B : Int) (v : Value) : Prop := Bk w g 25 #[.int .i64 B, v]
theorem NetAt.below {w w' : World} {g : Nat} {B : Int} {v : Value} (h : NetAt w g B v) (hb : Below w.heap.size w w') : NetAt w' g B v := Bk.keep h hb
theorem NetAt.c0 {w : World} {g : Nat} {B : Int} {v : Value} (h : NetAt w g B v) : w.cell? ⟨g, 0, none⟩ = some (.int .i64 B) := Bk.cell h 0
theorem NetAt.c1 {w : World} {g : Nat} {B : Int} {v : Value} (h : NetAt w g B v) : w.cell? ⟨g, 1, none⟩ = some v := Bk.cell h 1
theorem NetAt.lt {w : World} {g : Nat} {B : Int} {v : Value} (h : NetAt w g B v) : g < w.heap.size := Bk.lt h
theorem DrS.allocZ {α : Type} {k : Nat} {c : α → Nat → Value} {w : World} {B : Nat} {v : Value} {xs : List α} (h : DrS k c w B v xs) (o : Obj) : DrS k c (w.alloc o) B v xs := h.below (Below.alloc (Below.refl w.heap.size w) (Nat.le_refl _) o)
/-- A net, its lines' states, its buses and a zone were drawn. -/
def DrawnZL (w : World) (e : Ending) (w' : World) : Prop :=
  ∃ (nb : Nat) (A1 A2 A3 A4 : Option Addr) (c1 c2 c3 c4 : Nat) (ls : List R3) (on : List Bool) (bs : List R2) (zs : List Int), e = .returned (.tuple #[.agg #[.int .i64 (nb : Int), .slice A1 ls.length c1], .slice A2 on.length c2, .slice A3 bs.length c3, .slice A4 zs.length c4]) ∧ nb ≤ 7 ∧ ls.length ≤ 20 ∧ on.length ≤ 20 ∧ bs.length ≤ 20 ∧ zs.length ≤ 30 ∧
    DrS 3 r3C w' w.heap.size (.slice A1 ls.length c1) ls ∧ DrS 1 boolC w' w.heap.size (.slice A2 on.length c2) on ∧ DrS 2 r2C w' w.heap.size (.slice A3 bs.length c3) bs ∧ DrS 1 intC w' w.heap.size (.slice A4 zs.length c4) zs ∧ Below w.heap.size w w'
set_option maxRecDepth 100000 in
set_option maxHeartbeats 8000000 in
theorem drawZoneLoad_any (A : Option Addr) (c : Nat) (bs : List Int) (w : World) (hR : Reads 1 byteC w w.heap.size A bs) (hb : ∀ x ∈ bs, U8 x) (hl : bs.length ≤ 1048576) (hc : bs.length ≤ c) (hcm : c ≤ 9223372036854775807) :
    Calls Tryd.prog 19 #[.slice A bs.length c] w (DrawnZL w) := by
  have HRa := Lib.hid (reads_allocZ hR (.cells #[.int .i64 0, .slice none 0 0] 25)); clear hR
  have HB := Lib.hid hb; clear hb
  have HK0 : Hid (Bk (w.alloc (.cells #[.int .i64 0, .slice none 0 0] 25)) w.heap.size 25 #[.int .i64 0, .slice none 0 0]) := Bk.new _ _ _
  have HB0 : Hid (Below w.heap.size w (w.alloc (.cells #[.int .i64 0, .slice none 0 0] 25))) := Below.alloc (Below.refl _ _) (Nat.le_refl _) _
  go_enter Tryd.func19, Tryd.ntmps19
  go_wp2_with fail; ((with_reducible refine (l20Open_any A c bs _ HRa.out HB.out hl hc hcm).mono ?_); rintro e w1 ⟨g, rfl, hg, hr1, hb_1⟩); have hz_1 := hb_1.size; (try simp only [World.size_alloc, World.size_setCell, World.size_drew] at hz_1)
  have hgz := hr1.lt
  have HR1 := Lib.hid hr1
  have HK1 := Lib.hid (HK0.out.keep hb_1)
  have HB1 : Hid (Below w.heap.size w w1) := HB0.out.trans (hb_1.mono HB0.out.size)
  have hg4 : w.heap.size < g := by simp only [World.size_alloc] at hg; omega
  clear hr1 hb_1 hg HK0 HB0 HRa hz_1
  go_wp2_with fail
  with_reducible refine (l20Radial_any g 0 9 _ HR1.out (by omega) (by omega) (by omega)).mono ?_
  rintro e w2 ⟨nb, A1, A2, A3, c1, c2, c3, ls, on, bs2, rfl, hn2, hn7, hl1, hl2, hl3, hd1, hd2, hd3, hr2, hc2⟩
  have HK2 := Lib.hid (hc2.bk HK1.out (by omega))
  have HB2 : Hid (Below w.heap.size w w2) := HB1.out.trans ((hc2.below (Nat.le_of_lt hgz)).mono (by omega))
  have hz1 := HB1.out.size
  have hz2 := hc2.size
  have H1 := Lib.hid hd1; have H2 := Lib.hid hd2; have H3 := Lib.hid hd3
  have HR2 := Lib.hid hr2
  clear hd1 hd2 hd3 hr2 hc2 HR1 HK1
  have hgz2 : g < w2.heap.size := by omega
  have hww : w.heap.size < w2.heap.size := by omega
  -- the net's own block
  have HN3 : Hid (NetAt (w2.alloc (.cells #[.int .i64 (nb : Int), .slice A1 ls.length c1] 25)) w2.heap.size (nb : Int) (.slice A1 ls.length c1)) := Bk.new _ _ _
  have HK3 := Lib.hid (HK2.out.alloc (.cells #[.int .i64 (nb : Int), .slice A1 ls.length c1] 25))
  have HR3 := Lib.hid (HR2.out.alloc (.cells #[.int .i64 (nb : Int), .slice A1 ls.length c1] 25))
  have H13 := Lib.hid (H1.out.allocZ (.cells #[.int .i64 (nb : Int), .slice A1 ls.length c1] 25))
  have H23 := Lib.hid (H2.out.allocZ (.cells #[.int .i64 (nb : Int), .slice A1 ls.length c1] 25))
  have H33 := Lib.hid (H3.out.allocZ (.cells #[.int .i64 (nb : Int), .slice A1 ls.length c1] 25))
  have HB3 : Hid (Below w.heap.size w (w2.alloc (.cells #[.int .i64 (nb : Int), .slice A1 ls.length c1] 25))) := HB2.out.alloc HB2.out.size _
  go_upto_region 3 with fail
  generalize w2.alloc (.cells #[.int .i64 (nb : Int), .slice A1 ls.length c1] 25) = w3 at HN3 HK3 HR3 H13 H23 H33 HB3 ⊢
  clear HK2 HR2 H1 H2 H3 HB2
  obtain ⟨g7, hg7⟩ : ∃ g7, w2.heap.size = g7 := ⟨_, rfl⟩
  rw [hg7] at hgz2 hww HN3 ⊢
  have h17 : w1.heap.size ≤ g7 := by omega
  have hw1 : w.heap.size < w1.heap.size := by omega
  clear hg7 hz1 hz2
  have hg3 := HR3.out.lt
  have h73 := HN3.out.lt
  have s0 := HN3.out.c0
  have s1 := HN3.out.c1
  have hne : ¬ g7 = w.heap.size := by omega
  have hne2 : ¬ w.heap.size = g7 := by omega
  have HRd : Hid (RdOk 83 w3.drew g (0 + 100)) := HR3.out
  have HNd : Hid (NetAt w3.drew g7 (nb : Int) (.slice A1 ls.length c1)) := HN3.out
  have HKd : Hid (Bk w3.drew w.heap.size 25 #[.int .i64 0, .slice none 0 0]) := HK3.out
  have H1d : Hid (DrS 3 r3C w3.drew w1.heap.size (.slice A1 ls.length c1) ls) := H13.out
  have H2d : Hid (DrS 1 boolC w3.drew w1.heap.size (.slice A2 on.length c2) on) := H23.out
  have H3d : Hid (DrS 2 r2C w3.drew w1.heap.size (.slice A3 bs2.length c3) bs2) := H33.out
  have HBd : Hid (Below w.heap.size w w3.drew) := HB3.out.drew
  go_region_held3 (fun w' => w'.cell? ⟨g7, 0, none⟩ = some (.int .i64 (nb : Int)) ∧ w'.cell? ⟨g7, 1, none⟩ = some (.slice A1 ls.length c1)) (simp [go_sem, World.cell?_alloc_past, *])
    (first | (go_at_call 34; (with_reducible refine (l20Zone_any g (0 + 100) 12 (nb : Int) A1 ls.length c1 _ (by with_reducible exact HRd.out) (by omega) (by omega) (by omega) (by omega) (by omega)).mono ?_); rintro e w5 ⟨v5, zs, rfl, hz5, hdz, hrz, hcz⟩; have HZ5 := Lib.hid hdz; (obtain ⟨A4, c4, rfl, -⟩ := hdz); have HN5 := Lib.hid (hcz.bk HNd.out (by omega)); have HK5 := Lib.hid (hcz.bk HKd.out (by omega)); have H15 := Lib.hid (H1d.out.chg hcz hgz); have H25 := Lib.hid (H2d.out.chg hcz hgz); have H35 := Lib.hid (H3d.out.chg hcz hgz); have HB5 : Hid (Below w.heap.size w w5) := HBd.out.trans ((hcz.below (Nat.le_of_lt hg3)).mono (Nat.le_of_lt hg4)); have hz35 := hcz.size; clear hrz hcz; have q0 : w5.cell? ⟨g7, 0, none⟩ = some (.int .i64 (nb : Int)) := HN5.out.cell 0; have q1 : w5.cell? ⟨g7, 1, none⟩ = some (.slice A1 ls.length c1) := HN5.out.cell 1; have k0 : w5.cell? ⟨w.heap.size, 0, none⟩ = some (.int .i64 0) := HK5.out.cell 0; have k1 : w5.cell? ⟨w.heap.size, 1, none⟩ = some (.slice none 0 0) := HK5.out.cell 1; have kf := HK5.out.frozen; have kz := HK5.out.lt))
  go_wp2_with fail
  refine bodyPost_ret (v := .tuple #[.agg #[.int .i64 (nb : Int), .slice A1 ls.length c1], .slice A2 on.length c2, .slice A3 bs2.length c3, .slice A4 zs.length c4]) (by simp [results, Tryd.results19, go_sem, k0, k1, kf, kz]; try rfl) rfl ?_
  have hset : ∀ {α : Type} {k : Nat} {c : α → Nat → Value} {v : Value} {xs : List α} {B : Nat} {a b : Value}, w.heap.size < B → DrS k c w5 B v xs → DrS k c ((w5.setCell ⟨w.heap.size, 0, none⟩ a).setCell ⟨w.heap.size, 1, none⟩ b) w.heap.size v xs := fun hB h => ((h.setLow (p := ⟨w.heap.size, 0, none⟩) (by simpa using hB) _).setLow (p := ⟨w.heap.size, 1, none⟩) (by simpa using hB) _).mono (Nat.le_of_lt hB)
  exact ⟨nb, A1, A2, A3, A4, c1, c2, c3, c4, ls, on, bs2, zs, rfl, hn7, hl1, hl2, hl3, hz5, hset hw1 H15.out, hset hw1 H25.out, hset hw1 H35.out, hset (by have h : w.heap.size < w3.heap.size := (by omega); exact h) HZ5.out, (HB5.out.setCell (by simp) _).setCell (by simp) _⟩
set_option maxRecDepth 100000 in
set_option maxHeartbeats 4000000 in
theorem drawZoneFlow_any (A : Option Addr) (c : Nat) (bs : List Int) (w : World) (hR : Reads 1 byteC w w.heap.size A bs) (hb : ∀ x ∈ bs, U8 x) (hl : bs.length ≤ 1048576) (hc : bs.length ≤ c) (hcm : c ≤ 9223372036854775807) :
    Calls Tryd.prog 23 #[.slice A bs.length c] w (DrawnZL w) := by
  have HK0 : Hid (Bk (w.alloc (.cells #[.int .i64 0, .slice none 0 0] 25)) w.heap.size 25 #[.int .i64 0, .slice none 0 0]) := Bk.new _ _ _
  have HB0 : Hid (Below w.heap.size w (w.alloc (.cells #[.int .i64 0, .slice none 0 0] 25))) := Below.alloc (Below.refl _ _) (Nat.le_refl _) _
  have HD := Lib.hid (drawZoneLoad_any A c bs _ (reads_allocZ hR (.cells #[.int .i64 0, .slice none 0 0] 25)) hb hl hc hcm); clear hR hb
  have hsz : (w.alloc (.cells #[.int .i64 0, .slice none 0 0] 25)).heap.size = w.heap.size + 1 := by simp
  have HSZ := Lib.hid hsz; clear hsz
  go_enter Tryd.func23, Tryd.ntmps23
  go_wp2_with fail
  with_reducible refine HD.out.mono ?_
  rintro e w5 ⟨nb, A1, A2, A3, A4, c1, c2, c3, c4, ls, on, bs2, zs, rfl, hn7, hl1, hl2, hl3, hz5, hd1, hd2, hd3, hd4, hb⟩
  have HK5 := Lib.hid (HK0.out.keep hb)
  have HB5 : Hid (Below w.heap.size w w5) := HB0.out.trans (hb.mono HB0.out.size)
  rw [HSZ.out] at hd1 hd2 hd3 hd4
  have H15 := Lib.hid hd1; have H25 := Lib.hid hd2; have H35 := Lib.hid hd3; have HZ5 := Lib.hid hd4
  clear hd1 hd2 hd3 hd4 hb HD HK0 HB0
  have k0 : w5.cell? ⟨w.heap.size, 0, none⟩ = some (.int .i64 0) := HK5.out.cell 0
  have k1 : w5.cell? ⟨w.heap.size, 1, none⟩ = some (.slice none 0 0) := HK5.out.cell 1
  have kf := HK5.out.frozen
  have kz := HK5.out.lt
  go_wp2_with fail
  refine bodyPost_ret (v := .tuple #[.agg #[.int .i64 (nb : Int), .slice A1 ls.length c1], .slice A2 on.length c2, .slice A3 bs2.length c3, .slice A4 zs.length c4]) (by simp [results, Tryd.results23, go_sem, k0, k1, kf, kz]; try rfl) rfl ?_
  have hset : ∀ {α : Type} {k : Nat} {c : α → Nat → Value} {v : Value} {xs : List α} {B : Nat} {a b : Value}, w.heap.size < B → DrS k c w5 B v xs → DrS k c ((w5.setCell ⟨w.heap.size, 0, none⟩ a).setCell ⟨w.heap.size, 1, none⟩ b) w.heap.size v xs := fun hB h => ((h.setLow (p := ⟨w.heap.size, 0, none⟩) (by simpa using hB) _).setLow (p := ⟨w.heap.size, 1, none⟩) (by simpa using hB) _).mono (Nat.le_of_lt hB)
  exact ⟨nb, A1, A2, A3, A4, c1, c2, c3, c4, ls, on, bs2, zs, rfl, hn7, hl1, hl2, hl3, hz5, hset (Nat.lt_succ_self _) H15.out, hset (Nat.lt_succ_self _) H25.out, hset (Nat.lt_succ_self _) H35.out, hset (Nat.lt_succ_self _) HZ5.out, (HB5.out.setCell (by simp) _).setCell (by simp) _⟩
end Go.Proofs.YtdfgdeccejcpfaaDoor
