/- The law FnFirstTrip: draw and walk. -/
import Derived.Test.YtkndokcpnlbipaaDoorRlC
import Derived.Test.YtkndokcpnlbipaaDoorRlD
import Derived.Test.YtkndokcpnlbipaaDoorAlive
namespace Go.Proofs.YtkndokcpnlbipaaDoor
open Go.RowKit Go.Deep
set_option linter.unusedSimpArgs false
set_option linter.unusedVariables false
def DrawnFT (w : World) (e : Ending) (w' : World) : Prop := ∃ (v : Value) (xs : List R2) (c : Int), e = .returned (.tuple #[v, .int .i64 c]) ∧ xs.length ≤ 11 ∧ (∀ x ∈ xs, SmR x.a x.b) ∧ -1 ≤ c ∧ c ≤ 401 ∧ DrS 2 r2C w' w.heap.size v xs ∧ Below w.heap.size w w'
set_option maxRecDepth 100000 in
set_option maxHeartbeats 4000000 in
theorem drawFirstTrip_any (A : Option Addr) (c : Nat) (bs : List Int) (w : World) (hR : Reads 1 byteC w w.heap.size A bs) (hb : ∀ x ∈ bs, U8 x) (hl : bs.length ≤ 1048576) (hc : bs.length ≤ c) (hcm : c ≤ 9223372036854775807) :
    Calls Tryd.prog 16 #[.slice A bs.length c] w (DrawnFT w) := by
  have HR := Lib.hid hR; clear hR
  have HB := Lib.hid hb; clear hb
  have hmk := fun W => run_mk (P := Tryd.prog) 30 24 (.agg (Array.replicate 2 (.int .i64 0))) 2 16 11 Tryd.underlying30 (by kernel_rfl) (by omega) (by omega) W
  have HMK := Lib.hid hmk; clear hmk
  go_enter Tryd.func16, Tryd.ntmps16
  go_wp2_with fail; ((with_reducible refine (l20Open_any A c bs _ HR.out HB.out hl hc hcm).mono ?_); rintro e w1 ⟨g, rfl, hg, hr1, hb_1⟩); have hz_1 := hb_1.size; (try simp only [World.size_alloc, World.size_setCell, World.size_drew] at hz_1)
  have hgz := hr1.lt
  have HR1 := Lib.hid hr1; have HB1 := Lib.hid hb_1; clear hr1 hb_1
  go_wp2_with fail; ((with_reducible refine (pick_any g (0) 5 _ (HR1.out.alloc _) (by omega) (by omega)).mono ?_); rintro e w2 ⟨k0, rfl, h0k0, h1k0, hr_w2, hc_w2⟩); have hz_w2 := hc_w2.size; (try simp only [World.size_alloc, World.size_setCell, World.size_drew] at hz_w2); have HR_w2 := Lib.hid hr_w2; have HC_w2 := Lib.hid hc_w2; clear hr_w2 hc_w2
  have HO : Hid (Own 2 r2C 24 w2 w1.heap.size (.slice (some ⟨w1.heap.size, 0, none⟩) 0 0) []) := by
    unfold Hid
    exact (Own.lit (k := 2) (c := r2C) (B := w1.heap.size) w1 24 #[] 0 [] (Nat.le_refl _) rfl (by omega) rfl).chg HC_w2.out hgz
  have HC0 := Lib.hid (((Chg.refl g w1).alloc _).trans HC_w2.out)
  clear HC_w2
  go_wp2_with fail
  go_loopw [5, 6] (fun t u wr => ∃ (k : Int) (xs : List R2), u = .int .i64 k ∧ 0 ≤ k ∧ k ≤ 5 ∧ Hid ((xs.length : Int) + k ≤ 5 ∧ ∀ x ∈ xs, SmR x.a x.b) ∧ Hid (RdOk 64 wr g (100 - 10 * k)) ∧ Hid (Chg g w1 wr) ∧ Hid (Own 2 r2C 24 wr w1.heap.size t xs)) (fun _ u _ => (intOf u).toNat)
  case atStart => exact ⟨k0, [], rfl, h0k0, by omega, ⟨by simp; omega, by simp⟩, HR_w2.out.more (by omega), HC0, HO⟩
  case round =>
    obtain ⟨k, xs, rfl, hk0, hk1, HX, HR2, HC, HV⟩ := hrel
    clear HO HC0 HR_w2 hz_w2
    have hzw := HC.out.size
    have hgz : g < wr.heap.size := by omega
    obtain ⟨vA, vc, hvv⟩ := HV.out.slice
    have HXL := Lib.hid HX.out.1
    generalize hll : xs.length = ll at hvv HXL
    have HLL := Lib.hid hll; clear hll
    have hxl : xs.length ≤ 5 := by have := HLL.out; have := HXL.out; omega
    subst hvv
    by_cases hk : 0 < k
    · go_wp2_with fail
      refine (l20Relay_any g (100 - 10 * k) 30 _ HR2.out (by omega) (by omega) (by omega)).mono ?_
      rintro e wb ⟨p, d, rfl, hs, hrb, hcb⟩
      have HS := Lib.hid hs
      have HV1 := Lib.hid (HV.out.chg hcb (by omega))
      have HCW : Hid (Chg g w1 wb) := HC.out.trans hcb
      have HRb := Lib.hid hrb
      have hzw1 := HCW.out.size
      clear hs hrb hcb
      have HL_7 := Lib.hid (Own.lit (k := 2) (c := r2C) (B := w1.heap.size) wb 24 #[.int .i64 p, .int .i64 d] 1 [(⟨p, d⟩ : R2)] (by first | exact Nat.le_refl _ | omega) rfl (by omega) rfl); have HQ_7 := Lib.hid (HL_7.out.reads rfl).1; have HV_7 := Lib.hid (Own.alloc (HV1.out) (.cells #[.int .i64 p, .int .i64 d] 24)); have HK_7 := Lib.hid (Own.blk (HV1.out)); go_wp2_with (first | (at_builtin; refine wpList_app_g (k := 2) (c := r2C) _ (by rfl) _ _ _ rfl 24 (.agg (Array.replicate 2 (.int .i64 0))) 16 Tryd.underlying30 (by kernel_rfl) rfl (by decide) (by decide) r2C_one _ _ _ rfl HV_7.out _ _ _ _ rfl HQ_7.out ?hm ?hlen ?hB ?_; (case hm => (first | rfl | (simp; done) | omega)); (case hlen => (simp only [List.length_cons, List.length_nil]; omega)); (case hB => ((try simp only [World.size_alloc]); omega)); intro v_7 w_7 hown_7 hg_7 hat_7; have HW_7 : Hid (Below (w1.heap.size) (wb) w_7) := (Below.alloc (Below.refl _ _) (by first | exact Nat.le_refl _ | omega) _).grown hg_7 (by (try simp only [World.size_alloc]); omega) (fun q hq => (HK_7.out q hq).1); have HG_7 := Lib.hid hg_7; have HAT_7 := Lib.hid hat_7; have HO_7 := Lib.hid hown_7; obtain ⟨A_7, c_7, hv_7⟩ := hown_7.slice; simp only [List.length_append, List.length_cons, List.length_nil, Nat.zero_add] at hv_7; subst hv_7; have hz_7 := HG_7.out.size; (try simp only [World.size_alloc] at hz_7); clear hown_7 hg_7 hat_7 HL_7 HQ_7 HV_7))
      have HC5 := Lib.hid ((HCW.out.alloc _).grown HG_7.out (fun q hq => (HK_7.out q hq).1))
      have HR5 := Lib.hid ((HRb.out.alloc (.cells #[.int .i64 p, .int .i64 d] 24)).grown HG_7.out (fun q hq => by have := (HK_7.out q hq).1; omega))
      refine ⟨⟨k - 1, _, by go_num, by omega, by omega, ⟨?_, fun x hx => ?_⟩, HR5.out.more (by omega), HC5, HO_7⟩, by simp [intOf]; omega⟩
      · have := HLL.out; have := HXL.out; simp; omega
      · rcases List.mem_append.1 hx with hx | hx
        · exact HX.out.2 x hx
        · simp at hx; subst hx
          exact HS.out
    · have hk' : k ≤ 0 := by omega
      have hodd := odd_any g (100 - 10 * k) 20 wr HR2.out (by omega) (by omega) (by omega)
      go_wp2_with fail
      refine hodd.mono ?_
      clear hodd
      rintro e w2 ⟨bo, rfl, hr2, hc2⟩
      have HRa := Lib.hid hr2
      have HV1 := Lib.hid (HV.out.chg hc2 (by omega))
      have HCW : Hid (Chg g w1 w2) := HC.out.trans hc2
      have hzw1 := HCW.out.size
      clear hr2 hc2
      have hgz2 : g < w2.heap.size := by omega
      cases bo with
      | false =>
        go_wp2_with fail
        refine (l20Current_any g (100 - 10 * k + 1) _ HRa.out (by omega)).mono ?_
        rintro e w3 ⟨u, rfl, hu0, hu1, hr3, hc3⟩
        have HV3 := Lib.hid (HV1.out.chg hc3 (by omega))
        have HB3 : Hid (Below w.heap.size w w3) := HB1.out.trans (((HCW.out.trans hc3).below (by omega)).mono (by omega))
        clear hr3 hc3
        go_wp2_with fail
        refine bodyPost_ret (by simp [results, Tryd.results16, go_sem]; try rfl) rfl ?_
        exact ⟨_, xs, _, rfl, by omega, HX.out.2, hu0, hu1, HV3.out.drs.mono HB1.out.size, HB3.out⟩
      | true =>
        have hmk := HMK.out
        have HRow := Lib.hid (row_made w2 2 (by omega) (11 * 2) 24)
        have HC7 := Lib.hid (HCW.out.alloc (.cells (madeCells (Array.replicate 2 (Value.int .i64 0)) (11 * 2)) 24))
        have HR7 := Lib.hid (HRa.out.alloc (.cells (madeCells (Array.replicate 2 (Value.int .i64 0)) (11 * 2)) 24))
        generalize hmc : madeCells (Array.replicate 2 (Value.int .i64 0)) (11 * 2) = mc at HRow HC7 HR7
        have hmk2 : ∀ W : World, (Instr.makeSlice 30 (.int .i64 11) (.int .i64 11)).run Tryd.prog W = .ok (.slice (some ⟨W.heap.size, 0, none⟩) 11 11) (W.alloc (.cells mc 24)) := fun W => by rw [← hmc]; exact hmk W
        clear hmk hmc HMK
        have HD7 : Hid (DrS 2 r2C (w2.alloc (.cells mc 24)) w1.heap.size (.slice (some ⟨w2.heap.size, 0, none⟩) 11 11) (List.replicate 11 ⟨0, 0⟩)) := by
          refine ⟨_, _, rfl, by simp, by omega, .inr ⟨_, _, rfl, by omega, by simp, fun i x hx j hj => ?_⟩⟩
          have e : x = ⟨0, 0⟩ := (List.mem_replicate.1 (List.mem_of_getElem? hx)).2
          obtain ⟨hi, _⟩ := getElem?_of_lt hx
          simp at hi
          subst e
          rw [Nat.zero_add, HRow.out.cell (by omega)]
          unfold r2C
          split <;> rfl
        go_wp2_with fail
        refine (l20Current_any g (100 - 10 * k + 1) _ HR7.out (by omega)).mono ?_
        rintro e w3 ⟨u, rfl, hu0, hu1, hr3, hc3⟩
        have HV3 := Lib.hid (HD7.out.chg hc3 (by omega))
        have HB3 : Hid (Below w.heap.size w w3) := HB1.out.trans (((HC7.out.trans hc3).below (by omega)).mono (by omega))
        clear hr3 hc3
        go_wp2_with fail
        refine bodyPost_ret (by simp [results, Tryd.results16, go_sem]; try rfl) rfl ?_
        refine ⟨_, List.replicate 11 ⟨0, 0⟩, _, rfl, by simp, fun x hx => ?_, hu0, hu1, HV3.out.mono HB1.out.size, HB3.out⟩
        have := (List.mem_replicate.1 hx).2; subst this; unfold SmR; simp only; omega

theorem TripIs.cases {xs : List R2} {c x : Int} (h : TripIs xs c x) : (x = -1 ∧ ¬ TripG xs) ∨ (x = -1 ∧ TripG xs ∧ ∀ j, j < xs.length → tAt xs c j < 0) ∨ (∃ q : Nat, x = q ∧ q < xs.length ∧ 0 ≤ tAt xs c q ∧ ∀ j, j < xs.length → 0 ≤ tAt xs c j → tAt xs c q ≤ tAt xs c j ∧ (q < j → tAt xs c q < tAt xs c j)) := by
  rcases h with ⟨rfl, h⟩ | ⟨hg, i, rfl, hi, h1, h2⟩
  · by_cases hg : TripG xs
    · rcases h with h | h
      · exact absurd hg h
      · exact .inr (.inl ⟨rfl, hg, fun j hj => by rw [tAt_get hj]; exact h j hj⟩)
    · exact .inl ⟨rfl, hg⟩
  · refine .inr (.inr ⟨i, rfl, hi, by rw [tAt_get hi]; exact h1, fun j hj ht => ?_⟩)
    rw [tAt_get hj] at ht ⊢
    rw [tAt_get hi]
    exact h2 j hj ht

set_option maxRecDepth 100000 in
set_option maxHeartbeats 8000000 in
theorem fnFirstTrip_any (A : Option Addr) (n c : Nat) (bs : List Int) (w : World) (hn : bs.length = n) (hb : ∀ x ∈ bs, U8 x) (hc : n ≤ c) (hcm : c ≤ maxLen) (hR : Reads 1 byteC w w.heap.size A bs) :
    Calls Tryd.prog 5 #[.slice A n c] w fun e w' => e = .returned (.bool true) ∧ Below w.heap.size w w' := by
  unfold maxLen at hcm
  subst hn
  have HR := Lib.hid hR; clear hR
  have HB := Lib.hid hb; clear hb
  have HB_w : Hid (Below w.heap.size w w) := Below.refl _ _
  have hbb : ∀ x : Bool, (x != x) = false := fun x => by simp
  have hnn : ∀ x : Int, (x != x) = false := fun x => by simp
  by_cases hl : ¬ bs.length ≤ 1048576
  · have hl' : (1048576 : Int) < bs.length := by omega
    go_enter Tryd.func5, Tryd.ntmps5
    go_wp2_with fail
    go_ret
    exact ⟨rfl, Below.refl _ _⟩
  have hl : bs.length ≤ 1048576 := by omega
  have hl' : ¬ (1048576 : Int) < bs.length := by omega
  go_enter Tryd.func5, Tryd.ntmps5
  go_wp2_with fail; ((with_reducible refine (drawFirstTrip_any A c bs w HR.out HB.out hl hc hcm).mono ?_); rintro e w1 ⟨v, xs, x0, rfl, hx11, hsm, hc0, hc1, hd, hb_w1⟩); have HB_w1 : Hid (Below w.heap.size w w1) := HB_w.out.trans (hb_w1.mono HB_w.out.size); clear hb_w1
  have HD_w1 := Lib.hid hd
  obtain ⟨A1, cp1, rfl, hcap1, hcap2, _⟩ := hd
  generalize hnx : xs.length = n at hx11 hcap1
  have HN := Lib.hid hnx; clear hnx
  have hIc : Hid (I64 x0) := by unfold Hid I64; omega
  clear hsm
  have hxl : n ≤ 1048576 := by omega
  go_wp2_with fail; ((with_reducible refine (implFirstTrip_any A1 n cp1 xs x0 w1 HN.out HD_w1.out.reads.1 hxl).mono ?_); rintro e w2 ⟨x, rfl, hx, hb_w2⟩); have HB_w2 : Hid (Below w.heap.size w w2) := HB_w1.out.trans (hb_w2.mono HB_w1.out.size); have HD_w2 := Lib.hid (HD_w1.out.below hb_w2); clear hb_w2
  go_wp2_with fail; ((with_reducible refine (specFirstTrip_any A1 n cp1 xs x0 w2 HN.out HD_w2.out.reads.1 hxl hIc.out).mono ?_); rintro e w3 ⟨y, rfl, hy, hb_w3⟩); have HB_w3 : Hid (Below w.heap.size w w3) := HB_w2.out.trans (hb_w3.mono HB_w2.out.size); have HD_w3 := Lib.hid (HD_w2.out.below hb_w3); clear hb_w3
  obtain rfl : x = y := hx.uniq hy
  have hcs := hx.cases
  clear hx hy
  rcases hcs with ⟨rfl, hng⟩ | ⟨rfl, hg, hall⟩ | ⟨q, rfl, hq, hq0, hq1⟩
  · have HNG := Lib.hid hng; clear hng
    have HRD := Lib.hid HD_w3.out.reads.1
    go_wp2_with fail
    go_loopw [6] (fun t6 wr => ∃ i : Nat, t6 = .int .i64 i ∧ i ≤ n ∧ (0 < i → n ≤ 10) ∧ Hid (∀ j (hj : j < xs.length), j < i → RelP xs[j].a xs[j].b) ∧ Hid (Below w3.heap.size w3 wr)) (fun t6 _ => n - (intOf t6).toNat)
    case atStart => exact ⟨0, rfl, Nat.zero_le _, fun h => by omega, fun j _ hj => by omega, Below.refl _ _⟩
    case round =>
      obtain ⟨i, rfl, hi, hi10, HV, HBr⟩ := hrel
      by_cases hlt : i < n
      · have hx : i < xs.length := by rw [HN.out]; exact hlt
        obtain ⟨b, off, rfl, hb, hx0, hx1⟩ := HRD.out.at2 hx
        have hx0 := (HBr.out.cell (p := ⟨b, off + i * 2, none⟩) hb).trans hx0
        have hx1 := (HBr.out.cell (p := ⟨b, off + i * 2 + 1, none⟩) hb).trans hx1
        have ht : tAt xs x0 i = srt xs[i].a xs[i].b x0 := tAt_get hx
        generalize hxx : xs[i] = z at hx0 hx1 ht
        have HXX := Lib.hid hxx; clear hxx
        have HTT := Lib.hid ht; clear ht
        have hbw : b < wr.heap.size := Nat.lt_of_lt_of_le hb HBr.out.size
        by_cases hv : RelP z.a z.b ∧ n ≤ 10
        · obtain ⟨hv, h10⟩ := hv
          have hv' := relV_t.2 hv
          have hHV : Hid (∀ j (hj : j < xs.length), j < i + 1 → RelP xs[j].a xs[j].b) := by
            intro j hj hji
            by_cases e : j = i
            · subst e; rw [HXX.out]; exact hv
            · exact HV.out j hj (by omega)
          clear hv
          go_wp2_with fail; ((with_reducible refine (implRelayValid_any _ _ _).mono ?_); rintro e w4 ⟨rfl, hb_40⟩); have hz_40 := hb_40.size; (try simp only [World.size_alloc, World.size_setCell, World.size_drew] at hz_40)
          go_wp2_with fail
          all_goals try (exfalso; omega; done)
          exact ⟨⟨i + 1, by go_num, by omega, fun _ => h10, hHV, HBr.out.trans (hb_40.mono HBr.out.size)⟩, by simp [intOf]; omega⟩
        · have hv2 : relV z.a z.b = false ∨ (relV z.a z.b = true ∧ (10 : Int) < n) := by
            by_cases h : RelP z.a z.b
            · right; exact ⟨relV_t.2 h, by rcases Nat.lt_or_ge 10 n with h1 | h1
                                           · omega
                                           · exact absurd ⟨h, h1⟩ hv⟩
            · left; exact relV_f.2 h
          clear hv
          rcases hv2 with hv | ⟨hv, h10⟩
          · go_wp2_with fail; ((with_reducible refine (implRelayValid_any _ _ _).mono ?_); rintro e w4 ⟨rfl, hb_41⟩); have hz_41 := hb_41.size; (try simp only [World.size_alloc, World.size_setCell, World.size_drew] at hz_41)
            go_wp2_with fail; ((with_reducible refine (alive_any _).mono ?_); rintro e w5 ⟨rfl, hb_42⟩); have hz_42 := hb_42.size; (try simp only [World.size_alloc, World.size_setCell, World.size_drew] at hz_42)
            go_wp2_with fail
            go_ret
            exact ⟨rfl, HB_w3.out.trans (((HBr.out.trans (hb_41.mono HBr.out.size)).trans (hb_42.mono (Nat.le_trans HBr.out.size hb_41.size))).mono HB_w3.out.size)⟩
          · go_wp2_with fail; ((with_reducible refine (implRelayValid_any _ _ _).mono ?_); rintro e w4 ⟨rfl, hb_43⟩); have hz_43 := hb_43.size; (try simp only [World.size_alloc, World.size_setCell, World.size_drew] at hz_43)
            go_wp2_with fail; ((with_reducible refine (alive_any _).mono ?_); rintro e w5 ⟨rfl, hb_44⟩); have hz_44 := hb_44.size; (try simp only [World.size_alloc, World.size_setCell, World.size_drew] at hz_44)
            go_wp2_with fail
            go_ret
            exact ⟨rfl, HB_w3.out.trans (((HBr.out.trans (hb_43.mono HBr.out.size)).trans (hb_44.mono (Nat.le_trans HBr.out.size hb_43.size))).mono HB_w3.out.size)⟩
      · exfalso
        apply HNG.out
        have hin : i = xs.length := by rw [HN.out]; omega
        refine ⟨?_, fun x hx => ?_⟩
        · by_cases h0 : 0 < i
          · rw [HN.out]; exact hi10 h0
          · omega
        · obtain ⟨j, hj, rfl⟩ := List.mem_iff_getElem.1 hx
          exact HV.out j hj (by omega)
  · have h10 : n ≤ 10 := by rw [← HN.out]; exact hg.1
    have HG := Lib.hid hg; clear hg
    have HALL := Lib.hid hall; clear hall
    have HRD := Lib.hid HD_w3.out.reads.1
    go_wp2_with fail
    go_loopw [6] (fun t6 wr => ∃ i : Nat, t6 = .int .i64 i ∧ i ≤ n ∧ Hid (Below w3.heap.size w3 wr)) (fun t6 _ => n - (intOf t6).toNat)
    case atStart => exact ⟨0, rfl, Nat.zero_le _, Below.refl _ _⟩
    case round =>
      obtain ⟨i, rfl, hi, HBr⟩ := hrel
      by_cases hlt : i < n
      · have hx : i < xs.length := by rw [HN.out]; exact hlt
        obtain ⟨b, off, rfl, hb, hx0, hx1⟩ := HRD.out.at2 hx
        have hx0 := (HBr.out.cell (p := ⟨b, off + i * 2, none⟩) hb).trans hx0
        have hx1 := (HBr.out.cell (p := ⟨b, off + i * 2 + 1, none⟩) hb).trans hx1
        have ht : tAt xs x0 i = srt xs[i].a xs[i].b x0 := tAt_get hx
        generalize hxx : xs[i] = z at hx0 hx1 ht
        have HXX := Lib.hid hxx; clear hxx
        have HTT := Lib.hid ht; clear ht
        have hbw : b < wr.heap.size := Nat.lt_of_lt_of_le hb HBr.out.size
        have hv' : relV z.a z.b = true := relV_t.2 (by rw [← HXX.out]; exact HG.out.2 _ (List.getElem_mem hx))
        go_wp2_with fail; ((with_reducible refine (implRelayValid_any _ _ _).mono ?_); rintro e w4 ⟨rfl, hb_45⟩); have hz_45 := hb_45.size; (try simp only [World.size_alloc, World.size_setCell, World.size_drew] at hz_45)
        go_wp2_with fail
        all_goals try (exfalso; omega; done)
        exact ⟨⟨i + 1, by go_num, by omega, HBr.out.trans (hb_45.mono HBr.out.size)⟩, by simp [intOf]; omega⟩
      · go_wp2_with fail
        go_loopw [7] (fun t7 wq => ∃ i : Nat, t7 = .int .i64 i ∧ i ≤ n ∧ Hid (Below w3.heap.size w3 wq)) (fun t7 _ => n - (intOf t7).toNat)
        case atStart => exact ⟨0, rfl, Nat.zero_le _, HBr⟩
        case round =>
          clear HBr hlt hi
          obtain ⟨i, rfl, hi, HBr⟩ := hrel
          by_cases hlt : i < n
          · have hx : i < xs.length := by rw [HN.out]; exact hlt
            obtain ⟨b, off, rfl, hb, hx0, hx1⟩ := HRD.out.at2 hx
            have hx0 := (HBr.out.cell (p := ⟨b, off + i * 2, none⟩) hb).trans hx0
            have hx1 := (HBr.out.cell (p := ⟨b, off + i * 2 + 1, none⟩) hb).trans hx1
            have ht : tAt xs x0 i = srt xs[i].a xs[i].b x0 := tAt_get hx
            generalize hxx : xs[i] = z at hx0 hx1 ht
            have HXX := Lib.hid hxx; clear hxx
            have HTT := Lib.hid ht; clear ht
            have hbw : b < wr.heap.size := Nat.lt_of_lt_of_le hb HBr.out.size
            have hneg : srt z.a z.b x0 < 0 := by rw [← HTT.out]; exact HALL.out i hx
            go_wp2_with fail; ((with_reducible refine (implRelayTime_any _ _ _ _).mono ?_); rintro e w4 ⟨rfl, hb_46⟩); have hz_46 := hb_46.size; (try simp only [World.size_alloc, World.size_setCell, World.size_drew] at hz_46)
            go_wp2_with fail
            all_goals try (exfalso; omega; done)
            exact ⟨⟨i + 1, by go_num, by omega, HBr.out.trans (hb_46.mono HBr.out.size)⟩, by simp [intOf]; omega⟩
          · go_wp2_with fail
            go_ret
            exact ⟨rfl, HB_w3.out.trans (HBr.out.mono HB_w3.out.size)⟩
  · have HRD := Lib.hid HD_w3.out.reads.1
    have HQ1 := Lib.hid hq1; clear hq1
    obtain ⟨b', off', rfl, hbq, hq2, hq3⟩ := HRD.out.at2 hq
    have htq : tAt xs x0 q = srt xs[q].a xs[q].b x0 := tAt_get hq
    generalize xs[q] = y at hq2 hq3 htq
    have hqn : (q : Int) < n := by have := HN.out; omega
    have hsw : Hid (∀ W : World, Calls Tryd.prog 10 #[.agg #[.int .i64 y.a, .int .i64 y.b], .int .i64 x0] W fun e w' => e = .returned (.int .i64 (tAt xs x0 q)) ∧ Below W.heap.size W w') := fun W => by rw [htq]; exact implRelayTime_any _ _ _ _
    clear htq
    generalize hTq : tAt xs x0 q = T at *
    have HTq := Lib.hid hTq; clear hTq
    have hq' : ¬ ((q : Int) < 0) := by omega
    go_wp2_with fail; ((with_reducible refine (hsw.out _).mono ?_); rintro e w4 ⟨rfl, hb_47⟩); have cB0_47 := keepB hb_47 (g := b') (by go_size); have fB0_47 := keepF hb_47 (g := b') (by go_size); have zB0_47 := keepZ hb_47 (g := b') (by go_size); have hz_47 := hb_47.size; (try simp only [World.size_alloc, World.size_setCell, World.size_drew] at hz_47)
    have HB4 := Lib.hid hb_47
    go_wp2_with fail
    go_loopw [9] (fun t9 wr => ∃ i : Nat, t9 = .int .i64 i ∧ i ≤ n ∧ Hid (Below w3.heap.size w3 wr)) (fun t9 _ => n - (intOf t9).toNat)
    case atStart => exact ⟨0, rfl, Nat.zero_le _, HB4⟩
    case round =>
      obtain ⟨i, rfl, hi, HBr⟩ := hrel
      clear cB0_47 fB0_47 zB0_47 hb_47 hz_47
      by_cases hlt : i < n
      · have hx : i < xs.length := by rw [HN.out]; exact hlt
        obtain ⟨b, off, e, hb, hx0, hx1⟩ := HRD.out.at2 hx
        injection e with e; injection e with e1 e2; subst e1 e2
        have hx0 := (HBr.out.cell (p := ⟨b', off' + i * 2, none⟩) hb).trans hx0
        have hx1 := (HBr.out.cell (p := ⟨b', off' + i * 2 + 1, none⟩) hb).trans hx1
        have ht : tAt xs x0 i = srt xs[i].a xs[i].b x0 := tAt_get hx
        have hqi := HQ1.out i hx
        rw [ht] at hqi
        generalize xs[i] = z at hx0 hx1 hqi
        clear ht
        have hbw : b' < wr.heap.size := Nat.lt_of_lt_of_le hb HBr.out.size
        go_wp2_with fail; ((with_reducible refine (implRelayTime_any _ _ _ _).mono ?_); rintro e w5 ⟨rfl, hb_48⟩); have hz_48 := hb_48.size; (try simp only [World.size_alloc, World.size_setCell, World.size_drew] at hz_48)
        have hB5 : Hid (Below w3.heap.size w3 w5) := HBr.out.trans (hb_48.mono HBr.out.size)
        generalize srt z.a z.b x0 = U at *
        by_cases hU : U < 0
        · clear hqi
          go_wp2_with fail
          all_goals try (exfalso; omega; done)
          exact ⟨⟨i + 1, by go_num, by omega, hB5⟩, by simp [intOf]; omega⟩
        · obtain ⟨hu1, hu2⟩ := hqi (by omega)
          have hU' : 0 ≤ U := by omega
          by_cases hqi2 : q < i
          · have := hu2 hqi2
            have hne : (U == T) = false := by rw [beq_eq_false_iff_ne]; omega
            clear hu2 hU
            go_wp2_with fail
            all_goals try (exfalso; omega; done)
            exact ⟨⟨i + 1, by go_num, by omega, hB5⟩, by simp [intOf]; omega⟩
          · have hqi3 : (i : Int) ≤ (q : Int) := by omega
            clear hu2 hU hqi2
            go_wp2_with fail
            all_goals try (exfalso; omega; done)
            exact ⟨⟨i + 1, by go_num, by omega, hB5⟩, by simp [intOf]; omega⟩
      · go_wp2_with fail
        go_ret
        exact ⟨rfl, HB_w3.out.trans (HBr.out.mono HB_w3.out.size)⟩
end Go.Proofs.YtkndokcpnlbipaaDoor
