/- Drawing outputs of units. -/
import Derived.Test.YtcpopbkcphpdfaaDoorDrU
import Derived.Test.YtcpopbkcphpdfaaDoorOwn
import Derived.Deep.RegionHeld3
namespace Go.Proofs.YtcpopbkcphpdfaaDoor
open Go.RowKit Go.Deep
set_option linter.unusedSimpArgs false
set_option linter.unusedVariables false

theorem DrS.at4 {w : World} {B : Nat} {A : Option Addr} {n cp : Nat} {xs : List R4} (h : DrS 4 r4C w B (.slice A n cp) xs) {i : Nat} (hi : i < xs.length) :
    ∃ b off, A = some ⟨b, off, none⟩ ∧ B ≤ b ∧ b < w.heap.size ∧ w.cell? ⟨b, off + i * 4, none⟩ = some (.int .i64 xs[i].a) ∧ w.cell? ⟨b, off + i * 4 + 1, none⟩ = some (.int .i64 xs[i].b) ∧ w.cell? ⟨b, off + i * 4 + 2, none⟩ = some (.int .i64 xs[i].c) ∧ w.cell? ⟨b, off + i * 4 + 3, none⟩ = some (.int .i64 xs[i].d) := by
  obtain ⟨A', cp', e, h1, h1', h⟩ := h
  injection e with e1 e2 e3
  subst e1
  rcases h with h | ⟨b, off, hA, hB, hz', hc⟩
  · subst h; simp at hi
  · have hh := hc i _ (List.getElem?_eq_getElem hi)
    exact ⟨b, off, hA, hB, hz', hh 0 (by omega), hh 1 (by omega), hh 2 (by omega), hh 3 (by omega)⟩
theorem DrS.at1 {α : Type} {c : α → Nat → Value} {w : World} {B : Nat} {A : Option Addr} {n cp : Nat} {xs : List α} (h : DrS 1 c w B (.slice A n cp) xs) {i : Nat} (hi : i < xs.length) :
    ∃ b off, A = some ⟨b, off, none⟩ ∧ B ≤ b ∧ b < w.heap.size ∧ w.cell? ⟨b, off + i, none⟩ = some (c xs[i] 0) := by
  obtain ⟨A', cp', e, h1, h1', h⟩ := h
  injection e with e1 e2 e3
  subst e1
  rcases h with h | ⟨b, off, hA, hB, hz', hc⟩
  · subst h; simp at hi
  · have hh := hc i _ (List.getElem?_eq_getElem hi) 0 (by omega)
    rw [Nat.mul_one, Nat.add_zero] at hh
    exact ⟨b, off, hA, hB, hz', hh⟩
theorem DrS.none {α : Type} {k : Nat} {c : α → Nat → Value} {w : World} {B cp : Nat} {A : Option Addr} (h : cp ≤ 9223372036854775807) : DrS k c w B (.slice A 0 cp) ([] : List α) := ⟨A, cp, rfl, by simp, h, .inl rfl⟩

/-- Outputs were drawn. -/
def DrawnI (g : Nat) (P : Int) (w : World) (e : Ending) (w' : World) : Prop :=
  ∃ v ys, e = .returned v ∧ ys.length ≤ 7 ∧ (∀ y ∈ ys, -10 ≤ y ∧ y ≤ 200) ∧ DrS 1 intC w' w.heap.size v ys ∧ RdOk 94 w' g (P + 20) ∧ Chg g w w'

set_option maxRecDepth 100000 in
set_option maxHeartbeats 8000000 in
theorem l20Outputs_any (g : Nat) (P n : Int) (A : Option Addr) (c : Nat) (xs : List R4) (B : Nat) (w : World) (hr : RdOk 94 w g P) (hD : DrS 4 r4C w B (.slice A xs.length c) xs) (hgB : g < B) (h7 : xs.length ≤ 7) (hs : ∀ x ∈ xs, SmU x) (hP : P ≤ 900000) (hn : n ≤ 1000) (hn0 : 0 ≤ n) :
    Calls Tryd.prog 64 #[.pointer (some ⟨g, 0, none⟩), .slice A xs.length c, .int .i64 n] w (DrawnI g P w) := by
  have hgl := hr.lt
  have HR := Lib.hid hr; have HD := Lib.hid hD; have HS := Lib.hid hs; clear hr hD hs
  generalize hm : xs.length = m at h7 ⊢
  have HM := Lib.hid hm; clear hm
  have HDc : Hid (DrS 4 r4C w B (.slice A m c) xs) := by have := HD.out; rw [HM.out] at this; exact this
  clear HD
  go_enter Tryd.func64, Tryd.ntmps64
  go_wp2_with fail
  go_loopw [7, 8] (fun t u wr => ∃ (i : Nat) (ys : List Int) (vA : Option Addr) (vc : Nat), u = .int .i64 i ∧ i ≤ m ∧ t = .slice vA i vc ∧ Hid (ys.length = i ∧ ∀ y ∈ ys, -1 ≤ y ∧ y ≤ 100) ∧ Hid (RdOk 94 wr g (P + i)) ∧ Hid (Chg g w wr) ∧ Hid (Own 1 intC 3 wr w.heap.size (.slice vA i vc) ys)) (fun _ u _ => m - (intOf u).toNat)
  case atStart => exact ⟨0, [], _, _, rfl, Nat.zero_le _, rfl, ⟨rfl, by simp⟩, (HR.out.alloc _).more (by omega), (Chg.refl g w).alloc _, Own.lit (k := 1) (c := intC) (B := w.heap.size) w 3 #[] 0 [] (Nat.le_refl _) rfl (by omega) rfl⟩
  case round =>
    obtain ⟨i, ys, vA, vc, rfl, hi, rfl, HY, HR2, HC, HV⟩ := hrel
    have hzw := HC.out.size
    have hgz : g < wr.heap.size := by omega
    have HDw := Lib.hid (HDc.out.chg HC.out hgB)
    by_cases hlt : i < m
    · have hx : i < xs.length := by rw [HM.out]; exact hlt
      obtain ⟨b, off, rfl, hBb, hbz, c0, c1, _, _⟩ := HDw.out.at4 hx
      have hsm := HS.out xs[i] (List.getElem_mem hx)
      have hbz0 : b < w.heap.size := by
        obtain ⟨b', off', e, _, hz', _⟩ := HDc.out.at4 hx
        injection e with e; injection e with e1 e2; subst e1; exact hz'
      generalize xs[i] = x at c0 c1 hsm
      unfold SmU at hsm
      obtain ⟨s1, s2, s3, s4, _⟩ := hsm
      have hwm : IntKind.i64.wrap (x.b - x.a) = x.b - x.a := IntWalk.i64_in _ (by omega)
      have hBLK := HV.out.blk
      have hi1 : (i : Int) < (m : Int) := by omega
      have hi0 : (0 : Int) ≤ (i : Int) := by omega
      have HBLK := Lib.hid hBLK; clear hBLK
      obtain ⟨mx, hite⟩ : ∃ mx, (if x.b - x.a < 0 then 0 else x.b - x.a) = mx := ⟨_, rfl⟩
      have hmx0 : 0 ≤ mx := by rw [← hite]; split <;> omega
      have hmx1 : mx ≤ 50 := by rw [← hite]; split <;> omega
      have hw1 : IntKind.i64.wrap (mx + 1) = mx + 1 := IntWalk.i64_in _ (by omega)
      have HPK : Hid (∀ W : World, RdOk 94 W g (P + i) → Calls Tryd.prog 74 #[.pointer (some ⟨g, 0, none⟩), .int .i64 (mx + 1)] W (PickP 94 g (P + i) (mx + 1) W)) := fun W h => pick_any g (P + i) (mx + 1) W h (by omega) (by omega)
      · go_wp2_with fail
        go_region_held3 (fun w' => w'.cell? ⟨b, off + i * 4, none⟩ = some (.int .i64 x.a) ∧ w'.cell? ⟨b, off + i * 4 + 1, none⟩ = some (.int .i64 x.b)) (simp [go_sem, World.cell?_alloc_past, *])
          (first
            | (go_at_call 74; refine (HPK.out _ (HR2.out.below (Below.drew (Below.refl _ _)))).mono ?_; rintro e w2 ⟨v, rfl, h0, h1, hr2, hc2⟩; have cB := Chg.cell hc2 (b := b) (by go_size) (by omega); have zB : b < w2.heap.size := Nat.lt_of_lt_of_le (by go_size) hc2.size; have hwv : IntKind.i64.wrap (x.a + v) = x.a + v := IntWalk.i64_in _ (by omega); have HO2 := Lib.hid (Own.chg (Own.drew HV.out) hc2 (by omega)); have HRR := Lib.hid hr2; have HCC := Lib.hid (HC.out.trans hc2.undrew); have hz2 : w.heap.size ≤ w2.heap.size := HCC.out.size; clear hr2 hc2)
            | (rw [if_pos (by rfl)]; refine wp_app (k := 1) (c := intC) _ _ _ _ rfl 3 (.int .i64 0) 8 Tryd.underlying30 (by kernel_rfl) rfl (by decide) (by decide) intC_one _ _ _ rfl (Own.alloc HO2.out (.cells #[.int .i64 (x.a + v)] 3)) _ _ _ _ rfl ((Own.lit (k := 1) (c := intC) (B := w.heap.size) w2 3 #[.int .i64 (x.a + v)] 1 [x.a + v] hz2 rfl (by omega) rfl).reads rfl).1 rfl ?hlen ?hB ?_; (case hlen => (have := HY.out.1; simp only [List.length_cons, List.length_nil]; omega)); (case hB => (simp only [World.size_alloc]; omega)); intro v5 w5 hown5 hg5 hat5; have cB5 : ∀ q, w5.cell? ⟨b, q, none⟩ = w2.cell? ⟨b, q, none⟩ := fun q => (World.cell?_of_block (a := ⟨b, q, none⟩) (hg5.block b (by simp only [World.size_alloc]; omega) (fun e => by have := (HBLK.out b e.symm).1; omega))).trans (World.cell?_alloc_past _ _ _ zB); have HC5 := Lib.hid ((HCC.out.alloc _).grown hg5 (fun q hq => (HBLK.out q hq).1)); have HR5 := Lib.hid ((HRR.out.alloc (.cells #[.int .i64 (x.a + v)] 3)).grown hg5 (fun q hq => by have := (HBLK.out q hq).1; omega)); have HO5 := Lib.hid hown5; obtain ⟨vA5, vc5, hv5⟩ := hown5.slice; simp only [List.length_append, List.length_cons, List.length_nil, Nat.zero_add, HY.out.1] at hv5; subst hv5; clear hown5 hg5 hat5))
        go_wp2_with fail
        refine ⟨⟨i + 1, _, _, _, by go_num, by omega, rfl, ⟨?_, fun y hy => ?_⟩, HR5.out.more (by omega), HC5, HO5⟩, by simp [intOf]; omega⟩
        · simp [HY.out.1]
        · rcases List.mem_append.1 hy with hy | hy
          · exact HY.out.2 y hy
          · simp at hy; subst hy; omega
    · obtain rfl : i = m := by omega
      have hodd := odd_any g (P + i) n wr HR2.out (by omega) (by omega) hn0
      go_wp2_with fail
      refine hodd.mono ?_
      clear hodd
      rintro e w2 ⟨bo, rfl, hr2, hc2⟩
      have HRa := Lib.hid hr2
      have HV1 := Lib.hid (HV.out.chg hc2 (by omega))
      have HCW : Hid (Chg g w w2) := HC.out.trans hc2
      have HD2 := Lib.hid (HDw.out.chg hc2 hgB)
      have hzw1 := HCW.out.size
      have hgz2 : g < w2.heap.size := by omega
      clear hr2 hc2
      have hy2 : ∀ y ∈ ys, -10 ≤ y ∧ y ≤ 200 := fun y hy => by have := HY.out.2 y hy; omega
      have HY2 := Lib.hid hy2; clear hy2
      cases bo with
      | false =>
        go_wp2_with fail
        go_ret
        exact ⟨_, ys, rfl, by rw [HY.out.1]; omega, HY2.out, HV1.out.drs, HRa.out.more (by omega), HCW.out⟩
      | true =>
        by_cases h0 : i = 0
        · have hz0 : ¬ (0 : Int) < (i : Int) := by omega
          have hz1 : decide ((0 : Int) < (i : Int)) = false := by simp [h0]
          clear h0
          go_wp2_with fail
          go_ret
          exact ⟨_, ys, rfl, by rw [HY.out.1]; omega, HY2.out, HV1.out.drs, HRa.out.more (by omega), HCW.out⟩
        · have hz0 : (0 : Int) < (i : Int) := by omega
          go_wp2_with fail; ((with_reducible refine (pick_any g (P + i + 1) (i : Int) _ (HRa.out) (by omega) (by omega)).mono ?_); rintro e w3 ⟨v1, rfl, h0v1, h1v1, hr_w3, hc_w3⟩); have hz_w3 := hc_w3.size; (try simp only [World.size_alloc, World.size_setCell, World.size_drew] at hz_w3); have HR_w3 := Lib.hid hr_w3; have HC_w3 := Lib.hid hc_w3; clear hr_w3 hc_w3
          go_wp2_with fail; ((with_reducible refine (pick_any g (P + i + 1 + 1) 3 _ (HR_w3.out) (by omega) (by omega)).mono ?_); rintro e w4 ⟨v2, rfl, h0v2, h1v2, hr_w4, hc_w4⟩); have hz_w4 := hc_w4.size; (try simp only [World.size_alloc, World.size_setCell, World.size_drew] at hz_w4); have HR_w4 := Lib.hid hr_w4; have HC_w4 := Lib.hid hc_w4; clear hr_w4 hc_w4
          have HCX : Hid (Chg g w w4) := (HCW.out.trans HC_w3.out).trans HC_w4.out
          have HV2 := Lib.hid ((HV1.out.chg HC_w3.out (by omega)).chg HC_w4.out (by omega))
          have HD4 := Lib.hid ((HD2.out.chg HC_w3.out hgB).chg HC_w4.out hgB)
          obtain ⟨k, rfl⟩ := Int.eq_ofNat_of_zero_le h0v1
          have hk : k < i := by omega
          have hkx : k < xs.length := by rw [HM.out]; exact hk
          have hky : k < ys.length := by rw [HY.out.1]; exact hk
          have hki : (k : Int) < (i : Int) := by omega
          have hk0 : (0 : Int) ≤ (k : Int) := by omega
          obtain ⟨b, off, rfl, hBb, hbz, c0, c1, _, _⟩ := HD4.out.at4 hkx
          have hsm := HS.out xs[k] (List.getElem_mem hkx)
          generalize xs[k] = x at c0 c1 hsm
          unfold SmU at hsm
          obtain ⟨s1, s2, s3, s4, _⟩ := hsm
          have hv3 : v2 = 0 ∨ v2 = 1 ∨ v2 = 2 := by omega
          rcases hv3 with rfl | rfl | rfl
          · obtain ⟨gv, rfl, hgv, hgz4, d0, df⟩ := HV2.out.at1 hky
            clear HC_w3 HC_w4 HR_w3
            have dfk := df k
            go_wp2_with fail
            go_ret
            refine ⟨_, _, rfl, ?_, ?_, (HV2.out.set1 hky (x.b + 1)).drs, (HR_w4.out.set_new (by omega) _).more (by omega), HCX.out.set_new hgv _⟩
            · rw [List.length_set, HY.out.1]; omega
            · intro y hy
              rcases List.mem_or_eq_of_mem_set hy with hy | rfl
              · exact HY2.out y hy
              · omega
          · obtain ⟨gv, rfl, hgv, hgz4, d0, df⟩ := HV2.out.at1 hky
            clear HC_w3 HC_w4 HR_w3
            have dfk := df k
            go_wp2_with fail
            go_ret
            refine ⟨_, _, rfl, ?_, ?_, (HV2.out.set1 hky (x.a - 1)).drs, (HR_w4.out.set_new (by omega) _).more (by omega), HCX.out.set_new hgv _⟩
            · rw [List.length_set, HY.out.1]; omega
            · intro y hy
              rcases List.mem_or_eq_of_mem_set hy with hy | rfl
              · exact HY2.out y hy
              · omega
          · obtain ⟨gv, rfl, hgv, hgz4, d0, df⟩ := HV2.out.at1 hky
            have hcap := HV2.out.cap rfl
            unfold maxLen at hcap
            have hcap1 : (i : Int) ≤ (vc : Int) := by omega
            have hcap2 : (1 : Int) ≤ (i : Int) := by omega
            have HT := Lib.hid (HV2.out.drs.tail (by omega))
            by_cases hc1 : vc = 1
            · subst hc1
              have hi1 : i = 1 := by omega
              subst hi1
              go_wp2_with fail
              go_ret
              exact ⟨_, [], rfl, by simp, by simp, DrS.none (by omega), HR_w4.out.more (by omega), HCX.out⟩
            · have hc1' : ¬ ((vc : Int) = 1) := by omega
              go_wp2_with fail
              go_ret
              exact ⟨_, ys.tail, rfl, by rw [List.length_tail, HY.out.1]; omega, fun y hy => HY2.out y (List.mem_of_mem_tail hy), HT.out, HR_w4.out.more (by omega), HCX.out⟩
end Go.Proofs.YtcpopbkcphpdfaaDoor
